/-
  Tokens: what the program's Split comes to, and the document's Join.
-/
import Derived.Test.YtchlioikkhnidaaGreatMF
import Derived.Test.YtchlioikkhnidaaGreatME
import Derived.BigRegion
set_option linter.unusedVariables false
set_option linter.unusedSimpArgs false
namespace Go.Proofs.YtchlioikkhnidaaGreat
open Go.RowKit Go.Sort Go.ChangeShapes Go.WideShapes Go.ChangeAt
open Go.ChangeMaps (setBlock)
set_option linter.unusedVariables false
set_option linter.unusedSimpArgs false

set_option maxHeartbeats 16000000 in
set_option maxRecDepth 20000 in
theorem Split_calls (h : Bundle) (count : Int) (owner data : Bool) (w : World) (g : h.Good) (hb : h.count ≤ 1000000000000) :
    Calls Tryz.prog 133 #[h.val, .int .i64 count, .bool owner, .bool data] w (Pure w (.tuple #[(h.split count owner data).1.val, (h.split count owner data).2.val])) := by
  have hpos := g.pos
  have hg : h.given count owner = if h.owner = true then (if owner = true ∧ 0 < min (max count 0) h.count then (min (max count 0) h.count, true) else if min (max count 0) h.count = h.count then (min (max count 0) h.count - 1, false) else (min (max count 0) h.count, false)) else (min (max count 0) h.count, false) := rfl
  have hsp : h.split count owner data = if (h.given count owner).1 ≤ 0 then (Bundle.none, h) else (Bundle.valued (h.given count owner).1 (h.given count owner).2 (h.has && (data || (h.given count owner).2)) h.data, if (h.given count owner).1 = h.count then Bundle.none else ⟨h.count - (h.given count owner).1, h.owner && !(h.given count owner).2, h.has, h.data⟩) := rfl
  have hcl : clampI count 0 h.count = min (max count 0) h.count := by unfold clampI; omega
  have hmx : max h.count 0 = h.count := by omega
  obtain ⟨m, hm⟩ : ∃ m, m = min (max count 0) h.count := ⟨_, rfl⟩
  obtain ⟨gp, hgp⟩ : ∃ x, x = h.given count owner := ⟨_, rfl⟩
  rw [← hm] at hg hcl
  have m1 : 0 ≤ m := by omega
  have m2 : m ≤ h.count := by omega
  rw [← hgp] at hsp hg
  have HSP := Lib.hid hsp
  have HCL := Lib.hid hcl
  have HGP := Lib.hid hg
  clear hm hg hsp hcl hgp
  have HD := Lib.hid g.data
  obtain ⟨hc, ho, hh, hd⟩ := h
  simp only at hpos hb m1 m2 hmx
  have e0 : IntKind.i64.wrap (hc - m) = hc - m := by rw [IntKind.wrap_i64]; omega
  have e1 : IntKind.i64.wrap (hc - 1) = hc - 1 := by rw [IntKind.wrap_i64]; omega
  simp only [Bundle.val, Bundle.cells]
  go_enter Tryz.func133, Tryz.ntmps133
  go_wp2_with fail
  refine (Clamp_calls count 0 hc _).mono ?_
  rintro e w1 ⟨rfl, rfl⟩
  rw [HCL.out]
  cases ho
  case false =>
    cases owner
    case false =>
      have hgp : gp = (m, false) := by rw [HGP.out, if_neg (by decide)]
      subst hgp
      by_cases q1 : m < 1
      · have q1' : decide (m < 1) = true := by simpa using q1
        go_wp2_with fail
        (try (go_big_region; go_wp2_with fail))
        (try simp only [Exit.inBlock, Exit.then])
        refine bodyRet2 _ _ rfl rfl (ResIs.row Tryz.underlying42 rfl (by kernel_rfl) rfl (by simp [go_sem]; exact ⟨rfl, rfl, rfl⟩)) (ResIs.row Tryz.underlying42 rfl (by kernel_rfl) rfl (by simp [go_sem]; exact ⟨rfl, rfl, rfl⟩)) ?_
        refine pure_of ?_ (by repeat (first | with_reducible exact Chg.refl _ _ | with_reducible exact chg0 | with_reducible refine Chg.drewN ?_ _ | with_reducible refine Chg.drew ?_ | with_reducible refine Chg.alloc ?_ _ | with_reducible refine Chg.setCell ?_ _ _ (by first | (simp; done) | omega | (simp; omega)) | with_reducible refine Chg.setBlock ?_ _ _ (by first | (simp; done) | omega | (simp; omega)) | exact Chg.refl _ _))
        rw [HSP.out, if_pos (by first | omega | (simp; done) | (simp; omega))]
        first | rfl | (simp_all [Bundle.none]; done)
      · have q1' : decide (m < 1) = false := by simpa using q1
        by_cases q2 : m < hc
        · have q2' : decide (m < hc) = true := by simpa using q2
          cases hh <;> cases data
          case false.false =>
            obtain rfl : hd = 0 := HD.out rfl
            go_wp2_with fail
            refine (valued_calls (m) false false 0 _).mono ?_
            rintro e w' ⟨rfl, hb'⟩
            simp only [Bundle.val, Bundle.cells]
            have o0 : ob w' w.heap.size = some (.cells #[.int .i64 hc, .bool false, .bool false, .int .i64 0] 42 (0, 0)) := (Chg.of_below (S := fun _ => False) hb').ob (by simp [go_sem]) (fun h => h)
            have o1 : ob w' (w.heap.size + 1) = some (.cells #[.int .i64 0, .bool false, .bool false, .int .i64 0] 42 (0, 0)) := (Chg.of_below (S := fun _ => False) hb').ob (by simp [go_sem]) (fun h => h)
            have o2 : ob w' (w.heap.size + 1 + 1) = some (.cells #[.int .i64 0, .bool false, .bool false, .int .i64 0] 42 (0, 0)) := (Chg.of_below (S := fun _ => False) hb').ob (by simp [go_sem]) (fun h => h)
            have l0 := ob_lt o0
            have l1 := ob_lt o1
            have l2 := ob_lt o2
            obtain ⟨a0, a1, a2, a3, af⟩ := ob_cells4 o0
            obtain ⟨b0, b1, b2, b3, bf⟩ := ob_cells4 o1
            obtain ⟨d0, d1, d2, d3, df⟩ := ob_cells4 o2
            have chg0 : Chg (fun _ => False) w w' := Chg.of_below (below_trans (Chg.below (by repeat (first | with_reducible exact Chg.refl _ _ | with_reducible exact chg0 | with_reducible refine Chg.drewN ?_ _ | with_reducible refine Chg.drew ?_ | with_reducible refine Chg.alloc ?_ _ | with_reducible refine Chg.setCell ?_ _ _ (by first | (simp; done) | omega | (simp; omega)) | with_reducible refine Chg.setBlock ?_ _ _ (by first | (simp; done) | omega | (simp; omega)) | exact Chg.refl _ _))) hb')
            clear hb'
            go_wp2_with fail
            refine (valued_calls (hc - (m)) false false 0 _).mono ?_
            rintro e w2 ⟨rfl, hb'⟩
            simp only [Bundle.val, Bundle.cells]
            have o0x : ob w2 w.heap.size = some (.cells #[.int .i64 hc, .bool false, .bool false, .int .i64 0] 42 (0, 0)) := (Chg.of_below (S := fun _ => False) hb').ob (by simp [go_sem, o0, o1, o2, l0, l1, l2]) (fun h => h)
            have o1x : ob w2 (w.heap.size + 1) = some (.cells #[.int .i64 (Bundle.valued (m) false false 0).count, .bool (Bundle.valued (m) false false 0).owner, .bool (Bundle.valued (m) false false 0).has, .int .i64 (Bundle.valued (m) false false 0).data] 42 (0, 0)) := (Chg.of_below (S := fun _ => False) hb').ob (by simp [go_sem, o0, o1, o2, l0, l1, l2]) (fun h => h)
            have o2x : ob w2 (w.heap.size + 1 + 1) = some (.cells #[.int .i64 0, .bool false, .bool false, .int .i64 0] 42 (0, 0)) := (Chg.of_below (S := fun _ => False) hb').ob (by simp [go_sem, o0, o1, o2, l0, l1, l2]) (fun h => h)
            have l0x := ob_lt o0x
            have l1x := ob_lt o1x
            have l2x := ob_lt o2x
            obtain ⟨a0x, a1x, a2x, a3x, afx⟩ := ob_cells4 o0x
            obtain ⟨b0x, b1x, b2x, b3x, bfx⟩ := ob_cells4 o1x
            obtain ⟨d0x, d1x, d2x, d3x, dfx⟩ := ob_cells4 o2x
            have chg1 : Chg (fun _ => False) w w2 := Chg.of_below (below_trans (Chg.below (by repeat (first | with_reducible exact Chg.refl _ _ | with_reducible exact chg0 | with_reducible refine Chg.drewN ?_ _ | with_reducible refine Chg.drew ?_ | with_reducible refine Chg.alloc ?_ _ | with_reducible refine Chg.setCell ?_ _ _ (by first | (simp; done) | omega | (simp; omega)) | with_reducible refine Chg.setBlock ?_ _ _ (by first | (simp; done) | omega | (simp; omega)) | exact Chg.refl _ _))) hb')
            replace chg0 := chg1
            clear hb' o0 o1 o2 l0 l1 l2 a0 a1 a2 a3 af b0 b1 b2 b3 bf d0 d1 d2 d3 df
            go_wp2_with fail
            (try (go_big_region; go_wp2_with fail))
            (try simp only [Exit.inBlock, Exit.then])
            refine bodyRet2 _ _ rfl rfl (ResIs.row Tryz.underlying42 rfl (by kernel_rfl) rfl (by simp [go_sem, o0x, o1x, o2x, l0x, l1x, l2x]; exact ⟨rfl, rfl, rfl⟩)) (ResIs.row Tryz.underlying42 rfl (by kernel_rfl) rfl (by simp [go_sem, o0x, o1x, o2x, l0x, l1x, l2x]; exact ⟨rfl, rfl, rfl⟩)) ?_
            refine pure_of ?_ (by repeat (first | with_reducible exact Chg.refl _ _ | with_reducible exact chg0 | with_reducible refine Chg.drewN ?_ _ | with_reducible refine Chg.drew ?_ | with_reducible refine Chg.alloc ?_ _ | with_reducible refine Chg.setCell ?_ _ _ (by first | (simp; done) | omega | (simp; omega)) | with_reducible refine Chg.setBlock ?_ _ _ (by first | (simp; done) | omega | (simp; omega)) | exact Chg.refl _ _))
            rw [HSP.out, if_neg (show ¬ (m ≤ 0) by omega), if_neg (show ¬ m = hc by omega)]
            rfl
          case false.true =>
            obtain rfl : hd = 0 := HD.out rfl
            go_wp2_with fail
            refine (valued_calls (m) false false 0 _).mono ?_
            rintro e w' ⟨rfl, hb'⟩
            simp only [Bundle.val, Bundle.cells]
            have o0 : ob w' w.heap.size = some (.cells #[.int .i64 hc, .bool false, .bool false, .int .i64 0] 42 (0, 0)) := (Chg.of_below (S := fun _ => False) hb').ob (by simp [go_sem]) (fun h => h)
            have o1 : ob w' (w.heap.size + 1) = some (.cells #[.int .i64 0, .bool false, .bool false, .int .i64 0] 42 (0, 0)) := (Chg.of_below (S := fun _ => False) hb').ob (by simp [go_sem]) (fun h => h)
            have o2 : ob w' (w.heap.size + 1 + 1) = some (.cells #[.int .i64 0, .bool false, .bool false, .int .i64 0] 42 (0, 0)) := (Chg.of_below (S := fun _ => False) hb').ob (by simp [go_sem]) (fun h => h)
            have l0 := ob_lt o0
            have l1 := ob_lt o1
            have l2 := ob_lt o2
            obtain ⟨a0, a1, a2, a3, af⟩ := ob_cells4 o0
            obtain ⟨b0, b1, b2, b3, bf⟩ := ob_cells4 o1
            obtain ⟨d0, d1, d2, d3, df⟩ := ob_cells4 o2
            have chg0 : Chg (fun _ => False) w w' := Chg.of_below (below_trans (Chg.below (by repeat (first | with_reducible exact Chg.refl _ _ | with_reducible exact chg0 | with_reducible refine Chg.drewN ?_ _ | with_reducible refine Chg.drew ?_ | with_reducible refine Chg.alloc ?_ _ | with_reducible refine Chg.setCell ?_ _ _ (by first | (simp; done) | omega | (simp; omega)) | with_reducible refine Chg.setBlock ?_ _ _ (by first | (simp; done) | omega | (simp; omega)) | exact Chg.refl _ _))) hb')
            clear hb'
            go_wp2_with fail
            refine (valued_calls (hc - (m)) false false 0 _).mono ?_
            rintro e w2 ⟨rfl, hb'⟩
            simp only [Bundle.val, Bundle.cells]
            have o0x : ob w2 w.heap.size = some (.cells #[.int .i64 hc, .bool false, .bool false, .int .i64 0] 42 (0, 0)) := (Chg.of_below (S := fun _ => False) hb').ob (by simp [go_sem, o0, o1, o2, l0, l1, l2]) (fun h => h)
            have o1x : ob w2 (w.heap.size + 1) = some (.cells #[.int .i64 (Bundle.valued (m) false false 0).count, .bool (Bundle.valued (m) false false 0).owner, .bool (Bundle.valued (m) false false 0).has, .int .i64 (Bundle.valued (m) false false 0).data] 42 (0, 0)) := (Chg.of_below (S := fun _ => False) hb').ob (by simp [go_sem, o0, o1, o2, l0, l1, l2]) (fun h => h)
            have o2x : ob w2 (w.heap.size + 1 + 1) = some (.cells #[.int .i64 0, .bool false, .bool false, .int .i64 0] 42 (0, 0)) := (Chg.of_below (S := fun _ => False) hb').ob (by simp [go_sem, o0, o1, o2, l0, l1, l2]) (fun h => h)
            have l0x := ob_lt o0x
            have l1x := ob_lt o1x
            have l2x := ob_lt o2x
            obtain ⟨a0x, a1x, a2x, a3x, afx⟩ := ob_cells4 o0x
            obtain ⟨b0x, b1x, b2x, b3x, bfx⟩ := ob_cells4 o1x
            obtain ⟨d0x, d1x, d2x, d3x, dfx⟩ := ob_cells4 o2x
            have chg1 : Chg (fun _ => False) w w2 := Chg.of_below (below_trans (Chg.below (by repeat (first | with_reducible exact Chg.refl _ _ | with_reducible exact chg0 | with_reducible refine Chg.drewN ?_ _ | with_reducible refine Chg.drew ?_ | with_reducible refine Chg.alloc ?_ _ | with_reducible refine Chg.setCell ?_ _ _ (by first | (simp; done) | omega | (simp; omega)) | with_reducible refine Chg.setBlock ?_ _ _ (by first | (simp; done) | omega | (simp; omega)) | exact Chg.refl _ _))) hb')
            replace chg0 := chg1
            clear hb' o0 o1 o2 l0 l1 l2 a0 a1 a2 a3 af b0 b1 b2 b3 bf d0 d1 d2 d3 df
            go_wp2_with fail
            (try (go_big_region; go_wp2_with fail))
            (try simp only [Exit.inBlock, Exit.then])
            refine bodyRet2 _ _ rfl rfl (ResIs.row Tryz.underlying42 rfl (by kernel_rfl) rfl (by simp [go_sem, o0x, o1x, o2x, l0x, l1x, l2x]; exact ⟨rfl, rfl, rfl⟩)) (ResIs.row Tryz.underlying42 rfl (by kernel_rfl) rfl (by simp [go_sem, o0x, o1x, o2x, l0x, l1x, l2x]; exact ⟨rfl, rfl, rfl⟩)) ?_
            refine pure_of ?_ (by repeat (first | with_reducible exact Chg.refl _ _ | with_reducible exact chg0 | with_reducible refine Chg.drewN ?_ _ | with_reducible refine Chg.drew ?_ | with_reducible refine Chg.alloc ?_ _ | with_reducible refine Chg.setCell ?_ _ _ (by first | (simp; done) | omega | (simp; omega)) | with_reducible refine Chg.setBlock ?_ _ _ (by first | (simp; done) | omega | (simp; omega)) | exact Chg.refl _ _))
            rw [HSP.out, if_neg (show ¬ (m ≤ 0) by omega), if_neg (show ¬ m = hc by omega)]
            rfl
          case true.false =>
            go_wp2_with fail
            refine (valued_calls (m) false false hd _).mono ?_
            rintro e w' ⟨rfl, hb'⟩
            simp only [Bundle.val, Bundle.cells]
            have o0 : ob w' w.heap.size = some (.cells #[.int .i64 hc, .bool false, .bool true, .int .i64 hd] 42 (0, 0)) := (Chg.of_below (S := fun _ => False) hb').ob (by simp [go_sem]) (fun h => h)
            have o1 : ob w' (w.heap.size + 1) = some (.cells #[.int .i64 0, .bool false, .bool false, .int .i64 0] 42 (0, 0)) := (Chg.of_below (S := fun _ => False) hb').ob (by simp [go_sem]) (fun h => h)
            have o2 : ob w' (w.heap.size + 1 + 1) = some (.cells #[.int .i64 0, .bool false, .bool false, .int .i64 0] 42 (0, 0)) := (Chg.of_below (S := fun _ => False) hb').ob (by simp [go_sem]) (fun h => h)
            have l0 := ob_lt o0
            have l1 := ob_lt o1
            have l2 := ob_lt o2
            obtain ⟨a0, a1, a2, a3, af⟩ := ob_cells4 o0
            obtain ⟨b0, b1, b2, b3, bf⟩ := ob_cells4 o1
            obtain ⟨d0, d1, d2, d3, df⟩ := ob_cells4 o2
            have chg0 : Chg (fun _ => False) w w' := Chg.of_below (below_trans (Chg.below (by repeat (first | with_reducible exact Chg.refl _ _ | with_reducible exact chg0 | with_reducible refine Chg.drewN ?_ _ | with_reducible refine Chg.drew ?_ | with_reducible refine Chg.alloc ?_ _ | with_reducible refine Chg.setCell ?_ _ _ (by first | (simp; done) | omega | (simp; omega)) | with_reducible refine Chg.setBlock ?_ _ _ (by first | (simp; done) | omega | (simp; omega)) | exact Chg.refl _ _))) hb')
            clear hb'
            go_wp2_with fail
            refine (valued_calls (hc - (m)) false true hd _).mono ?_
            rintro e w2 ⟨rfl, hb'⟩
            simp only [Bundle.val, Bundle.cells]
            have o0x : ob w2 w.heap.size = some (.cells #[.int .i64 hc, .bool false, .bool true, .int .i64 hd] 42 (0, 0)) := (Chg.of_below (S := fun _ => False) hb').ob (by simp [go_sem, o0, o1, o2, l0, l1, l2]) (fun h => h)
            have o1x : ob w2 (w.heap.size + 1) = some (.cells #[.int .i64 (Bundle.valued (m) false false hd).count, .bool (Bundle.valued (m) false false hd).owner, .bool (Bundle.valued (m) false false hd).has, .int .i64 (Bundle.valued (m) false false hd).data] 42 (0, 0)) := (Chg.of_below (S := fun _ => False) hb').ob (by simp [go_sem, o0, o1, o2, l0, l1, l2]) (fun h => h)
            have o2x : ob w2 (w.heap.size + 1 + 1) = some (.cells #[.int .i64 0, .bool false, .bool false, .int .i64 0] 42 (0, 0)) := (Chg.of_below (S := fun _ => False) hb').ob (by simp [go_sem, o0, o1, o2, l0, l1, l2]) (fun h => h)
            have l0x := ob_lt o0x
            have l1x := ob_lt o1x
            have l2x := ob_lt o2x
            obtain ⟨a0x, a1x, a2x, a3x, afx⟩ := ob_cells4 o0x
            obtain ⟨b0x, b1x, b2x, b3x, bfx⟩ := ob_cells4 o1x
            obtain ⟨d0x, d1x, d2x, d3x, dfx⟩ := ob_cells4 o2x
            have chg1 : Chg (fun _ => False) w w2 := Chg.of_below (below_trans (Chg.below (by repeat (first | with_reducible exact Chg.refl _ _ | with_reducible exact chg0 | with_reducible refine Chg.drewN ?_ _ | with_reducible refine Chg.drew ?_ | with_reducible refine Chg.alloc ?_ _ | with_reducible refine Chg.setCell ?_ _ _ (by first | (simp; done) | omega | (simp; omega)) | with_reducible refine Chg.setBlock ?_ _ _ (by first | (simp; done) | omega | (simp; omega)) | exact Chg.refl _ _))) hb')
            replace chg0 := chg1
            clear hb' o0 o1 o2 l0 l1 l2 a0 a1 a2 a3 af b0 b1 b2 b3 bf d0 d1 d2 d3 df
            go_wp2_with fail
            (try (go_big_region; go_wp2_with fail))
            (try simp only [Exit.inBlock, Exit.then])
            refine bodyRet2 _ _ rfl rfl (ResIs.row Tryz.underlying42 rfl (by kernel_rfl) rfl (by simp [go_sem, o0x, o1x, o2x, l0x, l1x, l2x]; exact ⟨rfl, rfl, rfl⟩)) (ResIs.row Tryz.underlying42 rfl (by kernel_rfl) rfl (by simp [go_sem, o0x, o1x, o2x, l0x, l1x, l2x]; exact ⟨rfl, rfl, rfl⟩)) ?_
            refine pure_of ?_ (by repeat (first | with_reducible exact Chg.refl _ _ | with_reducible exact chg0 | with_reducible refine Chg.drewN ?_ _ | with_reducible refine Chg.drew ?_ | with_reducible refine Chg.alloc ?_ _ | with_reducible refine Chg.setCell ?_ _ _ (by first | (simp; done) | omega | (simp; omega)) | with_reducible refine Chg.setBlock ?_ _ _ (by first | (simp; done) | omega | (simp; omega)) | exact Chg.refl _ _))
            rw [HSP.out, if_neg (show ¬ (m ≤ 0) by omega), if_neg (show ¬ m = hc by omega)]
            rfl
          case true.true =>
            go_wp2_with fail
            refine (valued_calls (m) false true hd _).mono ?_
            rintro e w' ⟨rfl, hb'⟩
            simp only [Bundle.val, Bundle.cells]
            have o0 : ob w' w.heap.size = some (.cells #[.int .i64 hc, .bool false, .bool true, .int .i64 hd] 42 (0, 0)) := (Chg.of_below (S := fun _ => False) hb').ob (by simp [go_sem]) (fun h => h)
            have o1 : ob w' (w.heap.size + 1) = some (.cells #[.int .i64 0, .bool false, .bool false, .int .i64 0] 42 (0, 0)) := (Chg.of_below (S := fun _ => False) hb').ob (by simp [go_sem]) (fun h => h)
            have o2 : ob w' (w.heap.size + 1 + 1) = some (.cells #[.int .i64 0, .bool false, .bool false, .int .i64 0] 42 (0, 0)) := (Chg.of_below (S := fun _ => False) hb').ob (by simp [go_sem]) (fun h => h)
            have l0 := ob_lt o0
            have l1 := ob_lt o1
            have l2 := ob_lt o2
            obtain ⟨a0, a1, a2, a3, af⟩ := ob_cells4 o0
            obtain ⟨b0, b1, b2, b3, bf⟩ := ob_cells4 o1
            obtain ⟨d0, d1, d2, d3, df⟩ := ob_cells4 o2
            have chg0 : Chg (fun _ => False) w w' := Chg.of_below (below_trans (Chg.below (by repeat (first | with_reducible exact Chg.refl _ _ | with_reducible exact chg0 | with_reducible refine Chg.drewN ?_ _ | with_reducible refine Chg.drew ?_ | with_reducible refine Chg.alloc ?_ _ | with_reducible refine Chg.setCell ?_ _ _ (by first | (simp; done) | omega | (simp; omega)) | with_reducible refine Chg.setBlock ?_ _ _ (by first | (simp; done) | omega | (simp; omega)) | exact Chg.refl _ _))) hb')
            clear hb'
            go_wp2_with fail
            refine (valued_calls (hc - (m)) false true hd _).mono ?_
            rintro e w2 ⟨rfl, hb'⟩
            simp only [Bundle.val, Bundle.cells]
            have o0x : ob w2 w.heap.size = some (.cells #[.int .i64 hc, .bool false, .bool true, .int .i64 hd] 42 (0, 0)) := (Chg.of_below (S := fun _ => False) hb').ob (by simp [go_sem, o0, o1, o2, l0, l1, l2]) (fun h => h)
            have o1x : ob w2 (w.heap.size + 1) = some (.cells #[.int .i64 (Bundle.valued (m) false true hd).count, .bool (Bundle.valued (m) false true hd).owner, .bool (Bundle.valued (m) false true hd).has, .int .i64 (Bundle.valued (m) false true hd).data] 42 (0, 0)) := (Chg.of_below (S := fun _ => False) hb').ob (by simp [go_sem, o0, o1, o2, l0, l1, l2]) (fun h => h)
            have o2x : ob w2 (w.heap.size + 1 + 1) = some (.cells #[.int .i64 0, .bool false, .bool false, .int .i64 0] 42 (0, 0)) := (Chg.of_below (S := fun _ => False) hb').ob (by simp [go_sem, o0, o1, o2, l0, l1, l2]) (fun h => h)
            have l0x := ob_lt o0x
            have l1x := ob_lt o1x
            have l2x := ob_lt o2x
            obtain ⟨a0x, a1x, a2x, a3x, afx⟩ := ob_cells4 o0x
            obtain ⟨b0x, b1x, b2x, b3x, bfx⟩ := ob_cells4 o1x
            obtain ⟨d0x, d1x, d2x, d3x, dfx⟩ := ob_cells4 o2x
            have chg1 : Chg (fun _ => False) w w2 := Chg.of_below (below_trans (Chg.below (by repeat (first | with_reducible exact Chg.refl _ _ | with_reducible exact chg0 | with_reducible refine Chg.drewN ?_ _ | with_reducible refine Chg.drew ?_ | with_reducible refine Chg.alloc ?_ _ | with_reducible refine Chg.setCell ?_ _ _ (by first | (simp; done) | omega | (simp; omega)) | with_reducible refine Chg.setBlock ?_ _ _ (by first | (simp; done) | omega | (simp; omega)) | exact Chg.refl _ _))) hb')
            replace chg0 := chg1
            clear hb' o0 o1 o2 l0 l1 l2 a0 a1 a2 a3 af b0 b1 b2 b3 bf d0 d1 d2 d3 df
            go_wp2_with fail
            (try (go_big_region; go_wp2_with fail))
            (try simp only [Exit.inBlock, Exit.then])
            refine bodyRet2 _ _ rfl rfl (ResIs.row Tryz.underlying42 rfl (by kernel_rfl) rfl (by simp [go_sem, o0x, o1x, o2x, l0x, l1x, l2x]; exact ⟨rfl, rfl, rfl⟩)) (ResIs.row Tryz.underlying42 rfl (by kernel_rfl) rfl (by simp [go_sem, o0x, o1x, o2x, l0x, l1x, l2x]; exact ⟨rfl, rfl, rfl⟩)) ?_
            refine pure_of ?_ (by repeat (first | with_reducible exact Chg.refl _ _ | with_reducible exact chg0 | with_reducible refine Chg.drewN ?_ _ | with_reducible refine Chg.drew ?_ | with_reducible refine Chg.alloc ?_ _ | with_reducible refine Chg.setCell ?_ _ _ (by first | (simp; done) | omega | (simp; omega)) | with_reducible refine Chg.setBlock ?_ _ _ (by first | (simp; done) | omega | (simp; omega)) | exact Chg.refl _ _))
            rw [HSP.out, if_neg (show ¬ (m ≤ 0) by omega), if_neg (show ¬ m = hc by omega)]
            rfl
        · have q2' : decide (m < hc) = false := by simpa using q2
          cases hh <;> cases data
          case false.false =>
            obtain rfl : hd = 0 := HD.out rfl
            go_wp2_with fail
            refine (valued_calls (m) false false 0 _).mono ?_
            rintro e w' ⟨rfl, hb'⟩
            simp only [Bundle.val, Bundle.cells]
            have o0 : ob w' w.heap.size = some (.cells #[.int .i64 hc, .bool false, .bool false, .int .i64 0] 42 (0, 0)) := (Chg.of_below (S := fun _ => False) hb').ob (by simp [go_sem]) (fun h => h)
            have o1 : ob w' (w.heap.size + 1) = some (.cells #[.int .i64 0, .bool false, .bool false, .int .i64 0] 42 (0, 0)) := (Chg.of_below (S := fun _ => False) hb').ob (by simp [go_sem]) (fun h => h)
            have o2 : ob w' (w.heap.size + 1 + 1) = some (.cells #[.int .i64 0, .bool false, .bool false, .int .i64 0] 42 (0, 0)) := (Chg.of_below (S := fun _ => False) hb').ob (by simp [go_sem]) (fun h => h)
            have l0 := ob_lt o0
            have l1 := ob_lt o1
            have l2 := ob_lt o2
            obtain ⟨a0, a1, a2, a3, af⟩ := ob_cells4 o0
            obtain ⟨b0, b1, b2, b3, bf⟩ := ob_cells4 o1
            obtain ⟨d0, d1, d2, d3, df⟩ := ob_cells4 o2
            have chg0 : Chg (fun _ => False) w w' := Chg.of_below (below_trans (Chg.below (by repeat (first | with_reducible exact Chg.refl _ _ | with_reducible exact chg0 | with_reducible refine Chg.drewN ?_ _ | with_reducible refine Chg.drew ?_ | with_reducible refine Chg.alloc ?_ _ | with_reducible refine Chg.setCell ?_ _ _ (by first | (simp; done) | omega | (simp; omega)) | with_reducible refine Chg.setBlock ?_ _ _ (by first | (simp; done) | omega | (simp; omega)) | exact Chg.refl _ _))) hb')
            clear hb'
            go_wp2_with fail
            (try (go_big_region; go_wp2_with fail))
            (try simp only [Exit.inBlock, Exit.then])
            refine bodyRet2 _ _ rfl rfl (ResIs.row Tryz.underlying42 rfl (by kernel_rfl) rfl (by simp [go_sem, o0, o1, o2, l0, l1, l2]; exact ⟨rfl, rfl, rfl⟩)) (ResIs.row Tryz.underlying42 rfl (by kernel_rfl) rfl (by simp [go_sem, o0, o1, o2, l0, l1, l2]; exact ⟨rfl, rfl, rfl⟩)) ?_
            refine pure_of ?_ (by repeat (first | with_reducible exact Chg.refl _ _ | with_reducible exact chg0 | with_reducible refine Chg.drewN ?_ _ | with_reducible refine Chg.drew ?_ | with_reducible refine Chg.alloc ?_ _ | with_reducible refine Chg.setCell ?_ _ _ (by first | (simp; done) | omega | (simp; omega)) | with_reducible refine Chg.setBlock ?_ _ _ (by first | (simp; done) | omega | (simp; omega)) | exact Chg.refl _ _))
            rw [HSP.out, if_neg (show ¬ (m ≤ 0) by omega), if_pos (show m = hc by omega)]
            rfl
          case false.true =>
            obtain rfl : hd = 0 := HD.out rfl
            go_wp2_with fail
            refine (valued_calls (m) false false 0 _).mono ?_
            rintro e w' ⟨rfl, hb'⟩
            simp only [Bundle.val, Bundle.cells]
            have o0 : ob w' w.heap.size = some (.cells #[.int .i64 hc, .bool false, .bool false, .int .i64 0] 42 (0, 0)) := (Chg.of_below (S := fun _ => False) hb').ob (by simp [go_sem]) (fun h => h)
            have o1 : ob w' (w.heap.size + 1) = some (.cells #[.int .i64 0, .bool false, .bool false, .int .i64 0] 42 (0, 0)) := (Chg.of_below (S := fun _ => False) hb').ob (by simp [go_sem]) (fun h => h)
            have o2 : ob w' (w.heap.size + 1 + 1) = some (.cells #[.int .i64 0, .bool false, .bool false, .int .i64 0] 42 (0, 0)) := (Chg.of_below (S := fun _ => False) hb').ob (by simp [go_sem]) (fun h => h)
            have l0 := ob_lt o0
            have l1 := ob_lt o1
            have l2 := ob_lt o2
            obtain ⟨a0, a1, a2, a3, af⟩ := ob_cells4 o0
            obtain ⟨b0, b1, b2, b3, bf⟩ := ob_cells4 o1
            obtain ⟨d0, d1, d2, d3, df⟩ := ob_cells4 o2
            have chg0 : Chg (fun _ => False) w w' := Chg.of_below (below_trans (Chg.below (by repeat (first | with_reducible exact Chg.refl _ _ | with_reducible exact chg0 | with_reducible refine Chg.drewN ?_ _ | with_reducible refine Chg.drew ?_ | with_reducible refine Chg.alloc ?_ _ | with_reducible refine Chg.setCell ?_ _ _ (by first | (simp; done) | omega | (simp; omega)) | with_reducible refine Chg.setBlock ?_ _ _ (by first | (simp; done) | omega | (simp; omega)) | exact Chg.refl _ _))) hb')
            clear hb'
            go_wp2_with fail
            (try (go_big_region; go_wp2_with fail))
            (try simp only [Exit.inBlock, Exit.then])
            refine bodyRet2 _ _ rfl rfl (ResIs.row Tryz.underlying42 rfl (by kernel_rfl) rfl (by simp [go_sem, o0, o1, o2, l0, l1, l2]; exact ⟨rfl, rfl, rfl⟩)) (ResIs.row Tryz.underlying42 rfl (by kernel_rfl) rfl (by simp [go_sem, o0, o1, o2, l0, l1, l2]; exact ⟨rfl, rfl, rfl⟩)) ?_
            refine pure_of ?_ (by repeat (first | with_reducible exact Chg.refl _ _ | with_reducible exact chg0 | with_reducible refine Chg.drewN ?_ _ | with_reducible refine Chg.drew ?_ | with_reducible refine Chg.alloc ?_ _ | with_reducible refine Chg.setCell ?_ _ _ (by first | (simp; done) | omega | (simp; omega)) | with_reducible refine Chg.setBlock ?_ _ _ (by first | (simp; done) | omega | (simp; omega)) | exact Chg.refl _ _))
            rw [HSP.out, if_neg (show ¬ (m ≤ 0) by omega), if_pos (show m = hc by omega)]
            rfl
          case true.false =>
            go_wp2_with fail
            refine (valued_calls (m) false false hd _).mono ?_
            rintro e w' ⟨rfl, hb'⟩
            simp only [Bundle.val, Bundle.cells]
            have o0 : ob w' w.heap.size = some (.cells #[.int .i64 hc, .bool false, .bool true, .int .i64 hd] 42 (0, 0)) := (Chg.of_below (S := fun _ => False) hb').ob (by simp [go_sem]) (fun h => h)
            have o1 : ob w' (w.heap.size + 1) = some (.cells #[.int .i64 0, .bool false, .bool false, .int .i64 0] 42 (0, 0)) := (Chg.of_below (S := fun _ => False) hb').ob (by simp [go_sem]) (fun h => h)
            have o2 : ob w' (w.heap.size + 1 + 1) = some (.cells #[.int .i64 0, .bool false, .bool false, .int .i64 0] 42 (0, 0)) := (Chg.of_below (S := fun _ => False) hb').ob (by simp [go_sem]) (fun h => h)
            have l0 := ob_lt o0
            have l1 := ob_lt o1
            have l2 := ob_lt o2
            obtain ⟨a0, a1, a2, a3, af⟩ := ob_cells4 o0
            obtain ⟨b0, b1, b2, b3, bf⟩ := ob_cells4 o1
            obtain ⟨d0, d1, d2, d3, df⟩ := ob_cells4 o2
            have chg0 : Chg (fun _ => False) w w' := Chg.of_below (below_trans (Chg.below (by repeat (first | with_reducible exact Chg.refl _ _ | with_reducible exact chg0 | with_reducible refine Chg.drewN ?_ _ | with_reducible refine Chg.drew ?_ | with_reducible refine Chg.alloc ?_ _ | with_reducible refine Chg.setCell ?_ _ _ (by first | (simp; done) | omega | (simp; omega)) | with_reducible refine Chg.setBlock ?_ _ _ (by first | (simp; done) | omega | (simp; omega)) | exact Chg.refl _ _))) hb')
            clear hb'
            go_wp2_with fail
            (try (go_big_region; go_wp2_with fail))
            (try simp only [Exit.inBlock, Exit.then])
            refine bodyRet2 _ _ rfl rfl (ResIs.row Tryz.underlying42 rfl (by kernel_rfl) rfl (by simp [go_sem, o0, o1, o2, l0, l1, l2]; exact ⟨rfl, rfl, rfl⟩)) (ResIs.row Tryz.underlying42 rfl (by kernel_rfl) rfl (by simp [go_sem, o0, o1, o2, l0, l1, l2]; exact ⟨rfl, rfl, rfl⟩)) ?_
            refine pure_of ?_ (by repeat (first | with_reducible exact Chg.refl _ _ | with_reducible exact chg0 | with_reducible refine Chg.drewN ?_ _ | with_reducible refine Chg.drew ?_ | with_reducible refine Chg.alloc ?_ _ | with_reducible refine Chg.setCell ?_ _ _ (by first | (simp; done) | omega | (simp; omega)) | with_reducible refine Chg.setBlock ?_ _ _ (by first | (simp; done) | omega | (simp; omega)) | exact Chg.refl _ _))
            rw [HSP.out, if_neg (show ¬ (m ≤ 0) by omega), if_pos (show m = hc by omega)]
            rfl
          case true.true =>
            go_wp2_with fail
            refine (valued_calls (m) false true hd _).mono ?_
            rintro e w' ⟨rfl, hb'⟩
            simp only [Bundle.val, Bundle.cells]
            have o0 : ob w' w.heap.size = some (.cells #[.int .i64 hc, .bool false, .bool true, .int .i64 hd] 42 (0, 0)) := (Chg.of_below (S := fun _ => False) hb').ob (by simp [go_sem]) (fun h => h)
            have o1 : ob w' (w.heap.size + 1) = some (.cells #[.int .i64 0, .bool false, .bool false, .int .i64 0] 42 (0, 0)) := (Chg.of_below (S := fun _ => False) hb').ob (by simp [go_sem]) (fun h => h)
            have o2 : ob w' (w.heap.size + 1 + 1) = some (.cells #[.int .i64 0, .bool false, .bool false, .int .i64 0] 42 (0, 0)) := (Chg.of_below (S := fun _ => False) hb').ob (by simp [go_sem]) (fun h => h)
            have l0 := ob_lt o0
            have l1 := ob_lt o1
            have l2 := ob_lt o2
            obtain ⟨a0, a1, a2, a3, af⟩ := ob_cells4 o0
            obtain ⟨b0, b1, b2, b3, bf⟩ := ob_cells4 o1
            obtain ⟨d0, d1, d2, d3, df⟩ := ob_cells4 o2
            have chg0 : Chg (fun _ => False) w w' := Chg.of_below (below_trans (Chg.below (by repeat (first | with_reducible exact Chg.refl _ _ | with_reducible exact chg0 | with_reducible refine Chg.drewN ?_ _ | with_reducible refine Chg.drew ?_ | with_reducible refine Chg.alloc ?_ _ | with_reducible refine Chg.setCell ?_ _ _ (by first | (simp; done) | omega | (simp; omega)) | with_reducible refine Chg.setBlock ?_ _ _ (by first | (simp; done) | omega | (simp; omega)) | exact Chg.refl _ _))) hb')
            clear hb'
            go_wp2_with fail
            (try (go_big_region; go_wp2_with fail))
            (try simp only [Exit.inBlock, Exit.then])
            refine bodyRet2 _ _ rfl rfl (ResIs.row Tryz.underlying42 rfl (by kernel_rfl) rfl (by simp [go_sem, o0, o1, o2, l0, l1, l2]; exact ⟨rfl, rfl, rfl⟩)) (ResIs.row Tryz.underlying42 rfl (by kernel_rfl) rfl (by simp [go_sem, o0, o1, o2, l0, l1, l2]; exact ⟨rfl, rfl, rfl⟩)) ?_
            refine pure_of ?_ (by repeat (first | with_reducible exact Chg.refl _ _ | with_reducible exact chg0 | with_reducible refine Chg.drewN ?_ _ | with_reducible refine Chg.drew ?_ | with_reducible refine Chg.alloc ?_ _ | with_reducible refine Chg.setCell ?_ _ _ (by first | (simp; done) | omega | (simp; omega)) | with_reducible refine Chg.setBlock ?_ _ _ (by first | (simp; done) | omega | (simp; omega)) | exact Chg.refl _ _))
            rw [HSP.out, if_neg (show ¬ (m ≤ 0) by omega), if_pos (show m = hc by omega)]
            rfl
    case true =>
      have hgp : gp = (m, false) := by rw [HGP.out, if_neg (by decide)]
      subst hgp
      by_cases q1 : m < 1
      · have q1' : decide (m < 1) = true := by simpa using q1
        go_wp2_with fail
        (try (go_big_region; go_wp2_with fail))
        (try simp only [Exit.inBlock, Exit.then])
        refine bodyRet2 _ _ rfl rfl (ResIs.row Tryz.underlying42 rfl (by kernel_rfl) rfl (by simp [go_sem]; exact ⟨rfl, rfl, rfl⟩)) (ResIs.row Tryz.underlying42 rfl (by kernel_rfl) rfl (by simp [go_sem]; exact ⟨rfl, rfl, rfl⟩)) ?_
        refine pure_of ?_ (by repeat (first | with_reducible exact Chg.refl _ _ | with_reducible exact chg0 | with_reducible refine Chg.drewN ?_ _ | with_reducible refine Chg.drew ?_ | with_reducible refine Chg.alloc ?_ _ | with_reducible refine Chg.setCell ?_ _ _ (by first | (simp; done) | omega | (simp; omega)) | with_reducible refine Chg.setBlock ?_ _ _ (by first | (simp; done) | omega | (simp; omega)) | exact Chg.refl _ _))
        rw [HSP.out, if_pos (by first | omega | (simp; done) | (simp; omega))]
        first | rfl | (simp_all [Bundle.none]; done)
      · have q1' : decide (m < 1) = false := by simpa using q1
        by_cases q2 : m < hc
        · have q2' : decide (m < hc) = true := by simpa using q2
          cases hh <;> cases data
          case false.false =>
            obtain rfl : hd = 0 := HD.out rfl
            go_wp2_with fail
            refine (valued_calls (m) false false 0 _).mono ?_
            rintro e w' ⟨rfl, hb'⟩
            simp only [Bundle.val, Bundle.cells]
            have o0 : ob w' w.heap.size = some (.cells #[.int .i64 hc, .bool false, .bool false, .int .i64 0] 42 (0, 0)) := (Chg.of_below (S := fun _ => False) hb').ob (by simp [go_sem]) (fun h => h)
            have o1 : ob w' (w.heap.size + 1) = some (.cells #[.int .i64 0, .bool false, .bool false, .int .i64 0] 42 (0, 0)) := (Chg.of_below (S := fun _ => False) hb').ob (by simp [go_sem]) (fun h => h)
            have o2 : ob w' (w.heap.size + 1 + 1) = some (.cells #[.int .i64 0, .bool false, .bool false, .int .i64 0] 42 (0, 0)) := (Chg.of_below (S := fun _ => False) hb').ob (by simp [go_sem]) (fun h => h)
            have l0 := ob_lt o0
            have l1 := ob_lt o1
            have l2 := ob_lt o2
            obtain ⟨a0, a1, a2, a3, af⟩ := ob_cells4 o0
            obtain ⟨b0, b1, b2, b3, bf⟩ := ob_cells4 o1
            obtain ⟨d0, d1, d2, d3, df⟩ := ob_cells4 o2
            have chg0 : Chg (fun _ => False) w w' := Chg.of_below (below_trans (Chg.below (by repeat (first | with_reducible exact Chg.refl _ _ | with_reducible exact chg0 | with_reducible refine Chg.drewN ?_ _ | with_reducible refine Chg.drew ?_ | with_reducible refine Chg.alloc ?_ _ | with_reducible refine Chg.setCell ?_ _ _ (by first | (simp; done) | omega | (simp; omega)) | with_reducible refine Chg.setBlock ?_ _ _ (by first | (simp; done) | omega | (simp; omega)) | exact Chg.refl _ _))) hb')
            clear hb'
            go_wp2_with fail
            refine (valued_calls (hc - (m)) false false 0 _).mono ?_
            rintro e w2 ⟨rfl, hb'⟩
            simp only [Bundle.val, Bundle.cells]
            have o0x : ob w2 w.heap.size = some (.cells #[.int .i64 hc, .bool false, .bool false, .int .i64 0] 42 (0, 0)) := (Chg.of_below (S := fun _ => False) hb').ob (by simp [go_sem, o0, o1, o2, l0, l1, l2]) (fun h => h)
            have o1x : ob w2 (w.heap.size + 1) = some (.cells #[.int .i64 (Bundle.valued (m) false false 0).count, .bool (Bundle.valued (m) false false 0).owner, .bool (Bundle.valued (m) false false 0).has, .int .i64 (Bundle.valued (m) false false 0).data] 42 (0, 0)) := (Chg.of_below (S := fun _ => False) hb').ob (by simp [go_sem, o0, o1, o2, l0, l1, l2]) (fun h => h)
            have o2x : ob w2 (w.heap.size + 1 + 1) = some (.cells #[.int .i64 0, .bool false, .bool false, .int .i64 0] 42 (0, 0)) := (Chg.of_below (S := fun _ => False) hb').ob (by simp [go_sem, o0, o1, o2, l0, l1, l2]) (fun h => h)
            have l0x := ob_lt o0x
            have l1x := ob_lt o1x
            have l2x := ob_lt o2x
            obtain ⟨a0x, a1x, a2x, a3x, afx⟩ := ob_cells4 o0x
            obtain ⟨b0x, b1x, b2x, b3x, bfx⟩ := ob_cells4 o1x
            obtain ⟨d0x, d1x, d2x, d3x, dfx⟩ := ob_cells4 o2x
            have chg1 : Chg (fun _ => False) w w2 := Chg.of_below (below_trans (Chg.below (by repeat (first | with_reducible exact Chg.refl _ _ | with_reducible exact chg0 | with_reducible refine Chg.drewN ?_ _ | with_reducible refine Chg.drew ?_ | with_reducible refine Chg.alloc ?_ _ | with_reducible refine Chg.setCell ?_ _ _ (by first | (simp; done) | omega | (simp; omega)) | with_reducible refine Chg.setBlock ?_ _ _ (by first | (simp; done) | omega | (simp; omega)) | exact Chg.refl _ _))) hb')
            replace chg0 := chg1
            clear hb' o0 o1 o2 l0 l1 l2 a0 a1 a2 a3 af b0 b1 b2 b3 bf d0 d1 d2 d3 df
            go_wp2_with fail
            (try (go_big_region; go_wp2_with fail))
            (try simp only [Exit.inBlock, Exit.then])
            refine bodyRet2 _ _ rfl rfl (ResIs.row Tryz.underlying42 rfl (by kernel_rfl) rfl (by simp [go_sem, o0x, o1x, o2x, l0x, l1x, l2x]; exact ⟨rfl, rfl, rfl⟩)) (ResIs.row Tryz.underlying42 rfl (by kernel_rfl) rfl (by simp [go_sem, o0x, o1x, o2x, l0x, l1x, l2x]; exact ⟨rfl, rfl, rfl⟩)) ?_
            refine pure_of ?_ (by repeat (first | with_reducible exact Chg.refl _ _ | with_reducible exact chg0 | with_reducible refine Chg.drewN ?_ _ | with_reducible refine Chg.drew ?_ | with_reducible refine Chg.alloc ?_ _ | with_reducible refine Chg.setCell ?_ _ _ (by first | (simp; done) | omega | (simp; omega)) | with_reducible refine Chg.setBlock ?_ _ _ (by first | (simp; done) | omega | (simp; omega)) | exact Chg.refl _ _))
            rw [HSP.out, if_neg (show ¬ (m ≤ 0) by omega), if_neg (show ¬ m = hc by omega)]
            rfl
          case false.true =>
            obtain rfl : hd = 0 := HD.out rfl
            go_wp2_with fail
            refine (valued_calls (m) false false 0 _).mono ?_
            rintro e w' ⟨rfl, hb'⟩
            simp only [Bundle.val, Bundle.cells]
            have o0 : ob w' w.heap.size = some (.cells #[.int .i64 hc, .bool false, .bool false, .int .i64 0] 42 (0, 0)) := (Chg.of_below (S := fun _ => False) hb').ob (by simp [go_sem]) (fun h => h)
            have o1 : ob w' (w.heap.size + 1) = some (.cells #[.int .i64 0, .bool false, .bool false, .int .i64 0] 42 (0, 0)) := (Chg.of_below (S := fun _ => False) hb').ob (by simp [go_sem]) (fun h => h)
            have o2 : ob w' (w.heap.size + 1 + 1) = some (.cells #[.int .i64 0, .bool false, .bool false, .int .i64 0] 42 (0, 0)) := (Chg.of_below (S := fun _ => False) hb').ob (by simp [go_sem]) (fun h => h)
            have l0 := ob_lt o0
            have l1 := ob_lt o1
            have l2 := ob_lt o2
            obtain ⟨a0, a1, a2, a3, af⟩ := ob_cells4 o0
            obtain ⟨b0, b1, b2, b3, bf⟩ := ob_cells4 o1
            obtain ⟨d0, d1, d2, d3, df⟩ := ob_cells4 o2
            have chg0 : Chg (fun _ => False) w w' := Chg.of_below (below_trans (Chg.below (by repeat (first | with_reducible exact Chg.refl _ _ | with_reducible exact chg0 | with_reducible refine Chg.drewN ?_ _ | with_reducible refine Chg.drew ?_ | with_reducible refine Chg.alloc ?_ _ | with_reducible refine Chg.setCell ?_ _ _ (by first | (simp; done) | omega | (simp; omega)) | with_reducible refine Chg.setBlock ?_ _ _ (by first | (simp; done) | omega | (simp; omega)) | exact Chg.refl _ _))) hb')
            clear hb'
            go_wp2_with fail
            refine (valued_calls (hc - (m)) false false 0 _).mono ?_
            rintro e w2 ⟨rfl, hb'⟩
            simp only [Bundle.val, Bundle.cells]
            have o0x : ob w2 w.heap.size = some (.cells #[.int .i64 hc, .bool false, .bool false, .int .i64 0] 42 (0, 0)) := (Chg.of_below (S := fun _ => False) hb').ob (by simp [go_sem, o0, o1, o2, l0, l1, l2]) (fun h => h)
            have o1x : ob w2 (w.heap.size + 1) = some (.cells #[.int .i64 (Bundle.valued (m) false false 0).count, .bool (Bundle.valued (m) false false 0).owner, .bool (Bundle.valued (m) false false 0).has, .int .i64 (Bundle.valued (m) false false 0).data] 42 (0, 0)) := (Chg.of_below (S := fun _ => False) hb').ob (by simp [go_sem, o0, o1, o2, l0, l1, l2]) (fun h => h)
            have o2x : ob w2 (w.heap.size + 1 + 1) = some (.cells #[.int .i64 0, .bool false, .bool false, .int .i64 0] 42 (0, 0)) := (Chg.of_below (S := fun _ => False) hb').ob (by simp [go_sem, o0, o1, o2, l0, l1, l2]) (fun h => h)
            have l0x := ob_lt o0x
            have l1x := ob_lt o1x
            have l2x := ob_lt o2x
            obtain ⟨a0x, a1x, a2x, a3x, afx⟩ := ob_cells4 o0x
            obtain ⟨b0x, b1x, b2x, b3x, bfx⟩ := ob_cells4 o1x
            obtain ⟨d0x, d1x, d2x, d3x, dfx⟩ := ob_cells4 o2x
            have chg1 : Chg (fun _ => False) w w2 := Chg.of_below (below_trans (Chg.below (by repeat (first | with_reducible exact Chg.refl _ _ | with_reducible exact chg0 | with_reducible refine Chg.drewN ?_ _ | with_reducible refine Chg.drew ?_ | with_reducible refine Chg.alloc ?_ _ | with_reducible refine Chg.setCell ?_ _ _ (by first | (simp; done) | omega | (simp; omega)) | with_reducible refine Chg.setBlock ?_ _ _ (by first | (simp; done) | omega | (simp; omega)) | exact Chg.refl _ _))) hb')
            replace chg0 := chg1
            clear hb' o0 o1 o2 l0 l1 l2 a0 a1 a2 a3 af b0 b1 b2 b3 bf d0 d1 d2 d3 df
            go_wp2_with fail
            (try (go_big_region; go_wp2_with fail))
            (try simp only [Exit.inBlock, Exit.then])
            refine bodyRet2 _ _ rfl rfl (ResIs.row Tryz.underlying42 rfl (by kernel_rfl) rfl (by simp [go_sem, o0x, o1x, o2x, l0x, l1x, l2x]; exact ⟨rfl, rfl, rfl⟩)) (ResIs.row Tryz.underlying42 rfl (by kernel_rfl) rfl (by simp [go_sem, o0x, o1x, o2x, l0x, l1x, l2x]; exact ⟨rfl, rfl, rfl⟩)) ?_
            refine pure_of ?_ (by repeat (first | with_reducible exact Chg.refl _ _ | with_reducible exact chg0 | with_reducible refine Chg.drewN ?_ _ | with_reducible refine Chg.drew ?_ | with_reducible refine Chg.alloc ?_ _ | with_reducible refine Chg.setCell ?_ _ _ (by first | (simp; done) | omega | (simp; omega)) | with_reducible refine Chg.setBlock ?_ _ _ (by first | (simp; done) | omega | (simp; omega)) | exact Chg.refl _ _))
            rw [HSP.out, if_neg (show ¬ (m ≤ 0) by omega), if_neg (show ¬ m = hc by omega)]
            rfl
          case true.false =>
            go_wp2_with fail
            refine (valued_calls (m) false false hd _).mono ?_
            rintro e w' ⟨rfl, hb'⟩
            simp only [Bundle.val, Bundle.cells]
            have o0 : ob w' w.heap.size = some (.cells #[.int .i64 hc, .bool false, .bool true, .int .i64 hd] 42 (0, 0)) := (Chg.of_below (S := fun _ => False) hb').ob (by simp [go_sem]) (fun h => h)
            have o1 : ob w' (w.heap.size + 1) = some (.cells #[.int .i64 0, .bool false, .bool false, .int .i64 0] 42 (0, 0)) := (Chg.of_below (S := fun _ => False) hb').ob (by simp [go_sem]) (fun h => h)
            have o2 : ob w' (w.heap.size + 1 + 1) = some (.cells #[.int .i64 0, .bool false, .bool false, .int .i64 0] 42 (0, 0)) := (Chg.of_below (S := fun _ => False) hb').ob (by simp [go_sem]) (fun h => h)
            have l0 := ob_lt o0
            have l1 := ob_lt o1
            have l2 := ob_lt o2
            obtain ⟨a0, a1, a2, a3, af⟩ := ob_cells4 o0
            obtain ⟨b0, b1, b2, b3, bf⟩ := ob_cells4 o1
            obtain ⟨d0, d1, d2, d3, df⟩ := ob_cells4 o2
            have chg0 : Chg (fun _ => False) w w' := Chg.of_below (below_trans (Chg.below (by repeat (first | with_reducible exact Chg.refl _ _ | with_reducible exact chg0 | with_reducible refine Chg.drewN ?_ _ | with_reducible refine Chg.drew ?_ | with_reducible refine Chg.alloc ?_ _ | with_reducible refine Chg.setCell ?_ _ _ (by first | (simp; done) | omega | (simp; omega)) | with_reducible refine Chg.setBlock ?_ _ _ (by first | (simp; done) | omega | (simp; omega)) | exact Chg.refl _ _))) hb')
            clear hb'
            go_wp2_with fail
            refine (valued_calls (hc - (m)) false true hd _).mono ?_
            rintro e w2 ⟨rfl, hb'⟩
            simp only [Bundle.val, Bundle.cells]
            have o0x : ob w2 w.heap.size = some (.cells #[.int .i64 hc, .bool false, .bool true, .int .i64 hd] 42 (0, 0)) := (Chg.of_below (S := fun _ => False) hb').ob (by simp [go_sem, o0, o1, o2, l0, l1, l2]) (fun h => h)
            have o1x : ob w2 (w.heap.size + 1) = some (.cells #[.int .i64 (Bundle.valued (m) false false hd).count, .bool (Bundle.valued (m) false false hd).owner, .bool (Bundle.valued (m) false false hd).has, .int .i64 (Bundle.valued (m) false false hd).data] 42 (0, 0)) := (Chg.of_below (S := fun _ => False) hb').ob (by simp [go_sem, o0, o1, o2, l0, l1, l2]) (fun h => h)
            have o2x : ob w2 (w.heap.size + 1 + 1) = some (.cells #[.int .i64 0, .bool false, .bool false, .int .i64 0] 42 (0, 0)) := (Chg.of_below (S := fun _ => False) hb').ob (by simp [go_sem, o0, o1, o2, l0, l1, l2]) (fun h => h)
            have l0x := ob_lt o0x
            have l1x := ob_lt o1x
            have l2x := ob_lt o2x
            obtain ⟨a0x, a1x, a2x, a3x, afx⟩ := ob_cells4 o0x
            obtain ⟨b0x, b1x, b2x, b3x, bfx⟩ := ob_cells4 o1x
            obtain ⟨d0x, d1x, d2x, d3x, dfx⟩ := ob_cells4 o2x
            have chg1 : Chg (fun _ => False) w w2 := Chg.of_below (below_trans (Chg.below (by repeat (first | with_reducible exact Chg.refl _ _ | with_reducible exact chg0 | with_reducible refine Chg.drewN ?_ _ | with_reducible refine Chg.drew ?_ | with_reducible refine Chg.alloc ?_ _ | with_reducible refine Chg.setCell ?_ _ _ (by first | (simp; done) | omega | (simp; omega)) | with_reducible refine Chg.setBlock ?_ _ _ (by first | (simp; done) | omega | (simp; omega)) | exact Chg.refl _ _))) hb')
            replace chg0 := chg1
            clear hb' o0 o1 o2 l0 l1 l2 a0 a1 a2 a3 af b0 b1 b2 b3 bf d0 d1 d2 d3 df
            go_wp2_with fail
            (try (go_big_region; go_wp2_with fail))
            (try simp only [Exit.inBlock, Exit.then])
            refine bodyRet2 _ _ rfl rfl (ResIs.row Tryz.underlying42 rfl (by kernel_rfl) rfl (by simp [go_sem, o0x, o1x, o2x, l0x, l1x, l2x]; exact ⟨rfl, rfl, rfl⟩)) (ResIs.row Tryz.underlying42 rfl (by kernel_rfl) rfl (by simp [go_sem, o0x, o1x, o2x, l0x, l1x, l2x]; exact ⟨rfl, rfl, rfl⟩)) ?_
            refine pure_of ?_ (by repeat (first | with_reducible exact Chg.refl _ _ | with_reducible exact chg0 | with_reducible refine Chg.drewN ?_ _ | with_reducible refine Chg.drew ?_ | with_reducible refine Chg.alloc ?_ _ | with_reducible refine Chg.setCell ?_ _ _ (by first | (simp; done) | omega | (simp; omega)) | with_reducible refine Chg.setBlock ?_ _ _ (by first | (simp; done) | omega | (simp; omega)) | exact Chg.refl _ _))
            rw [HSP.out, if_neg (show ¬ (m ≤ 0) by omega), if_neg (show ¬ m = hc by omega)]
            rfl
          case true.true =>
            go_wp2_with fail
            refine (valued_calls (m) false true hd _).mono ?_
            rintro e w' ⟨rfl, hb'⟩
            simp only [Bundle.val, Bundle.cells]
            have o0 : ob w' w.heap.size = some (.cells #[.int .i64 hc, .bool false, .bool true, .int .i64 hd] 42 (0, 0)) := (Chg.of_below (S := fun _ => False) hb').ob (by simp [go_sem]) (fun h => h)
            have o1 : ob w' (w.heap.size + 1) = some (.cells #[.int .i64 0, .bool false, .bool false, .int .i64 0] 42 (0, 0)) := (Chg.of_below (S := fun _ => False) hb').ob (by simp [go_sem]) (fun h => h)
            have o2 : ob w' (w.heap.size + 1 + 1) = some (.cells #[.int .i64 0, .bool false, .bool false, .int .i64 0] 42 (0, 0)) := (Chg.of_below (S := fun _ => False) hb').ob (by simp [go_sem]) (fun h => h)
            have l0 := ob_lt o0
            have l1 := ob_lt o1
            have l2 := ob_lt o2
            obtain ⟨a0, a1, a2, a3, af⟩ := ob_cells4 o0
            obtain ⟨b0, b1, b2, b3, bf⟩ := ob_cells4 o1
            obtain ⟨d0, d1, d2, d3, df⟩ := ob_cells4 o2
            have chg0 : Chg (fun _ => False) w w' := Chg.of_below (below_trans (Chg.below (by repeat (first | with_reducible exact Chg.refl _ _ | with_reducible exact chg0 | with_reducible refine Chg.drewN ?_ _ | with_reducible refine Chg.drew ?_ | with_reducible refine Chg.alloc ?_ _ | with_reducible refine Chg.setCell ?_ _ _ (by first | (simp; done) | omega | (simp; omega)) | with_reducible refine Chg.setBlock ?_ _ _ (by first | (simp; done) | omega | (simp; omega)) | exact Chg.refl _ _))) hb')
            clear hb'
            go_wp2_with fail
            refine (valued_calls (hc - (m)) false true hd _).mono ?_
            rintro e w2 ⟨rfl, hb'⟩
            simp only [Bundle.val, Bundle.cells]
            have o0x : ob w2 w.heap.size = some (.cells #[.int .i64 hc, .bool false, .bool true, .int .i64 hd] 42 (0, 0)) := (Chg.of_below (S := fun _ => False) hb').ob (by simp [go_sem, o0, o1, o2, l0, l1, l2]) (fun h => h)
            have o1x : ob w2 (w.heap.size + 1) = some (.cells #[.int .i64 (Bundle.valued (m) false true hd).count, .bool (Bundle.valued (m) false true hd).owner, .bool (Bundle.valued (m) false true hd).has, .int .i64 (Bundle.valued (m) false true hd).data] 42 (0, 0)) := (Chg.of_below (S := fun _ => False) hb').ob (by simp [go_sem, o0, o1, o2, l0, l1, l2]) (fun h => h)
            have o2x : ob w2 (w.heap.size + 1 + 1) = some (.cells #[.int .i64 0, .bool false, .bool false, .int .i64 0] 42 (0, 0)) := (Chg.of_below (S := fun _ => False) hb').ob (by simp [go_sem, o0, o1, o2, l0, l1, l2]) (fun h => h)
            have l0x := ob_lt o0x
            have l1x := ob_lt o1x
            have l2x := ob_lt o2x
            obtain ⟨a0x, a1x, a2x, a3x, afx⟩ := ob_cells4 o0x
            obtain ⟨b0x, b1x, b2x, b3x, bfx⟩ := ob_cells4 o1x
            obtain ⟨d0x, d1x, d2x, d3x, dfx⟩ := ob_cells4 o2x
            have chg1 : Chg (fun _ => False) w w2 := Chg.of_below (below_trans (Chg.below (by repeat (first | with_reducible exact Chg.refl _ _ | with_reducible exact chg0 | with_reducible refine Chg.drewN ?_ _ | with_reducible refine Chg.drew ?_ | with_reducible refine Chg.alloc ?_ _ | with_reducible refine Chg.setCell ?_ _ _ (by first | (simp; done) | omega | (simp; omega)) | with_reducible refine Chg.setBlock ?_ _ _ (by first | (simp; done) | omega | (simp; omega)) | exact Chg.refl _ _))) hb')
            replace chg0 := chg1
            clear hb' o0 o1 o2 l0 l1 l2 a0 a1 a2 a3 af b0 b1 b2 b3 bf d0 d1 d2 d3 df
            go_wp2_with fail
            (try (go_big_region; go_wp2_with fail))
            (try simp only [Exit.inBlock, Exit.then])
            refine bodyRet2 _ _ rfl rfl (ResIs.row Tryz.underlying42 rfl (by kernel_rfl) rfl (by simp [go_sem, o0x, o1x, o2x, l0x, l1x, l2x]; exact ⟨rfl, rfl, rfl⟩)) (ResIs.row Tryz.underlying42 rfl (by kernel_rfl) rfl (by simp [go_sem, o0x, o1x, o2x, l0x, l1x, l2x]; exact ⟨rfl, rfl, rfl⟩)) ?_
            refine pure_of ?_ (by repeat (first | with_reducible exact Chg.refl _ _ | with_reducible exact chg0 | with_reducible refine Chg.drewN ?_ _ | with_reducible refine Chg.drew ?_ | with_reducible refine Chg.alloc ?_ _ | with_reducible refine Chg.setCell ?_ _ _ (by first | (simp; done) | omega | (simp; omega)) | with_reducible refine Chg.setBlock ?_ _ _ (by first | (simp; done) | omega | (simp; omega)) | exact Chg.refl _ _))
            rw [HSP.out, if_neg (show ¬ (m ≤ 0) by omega), if_neg (show ¬ m = hc by omega)]
            rfl
        · have q2' : decide (m < hc) = false := by simpa using q2
          cases hh <;> cases data
          case false.false =>
            obtain rfl : hd = 0 := HD.out rfl
            go_wp2_with fail
            refine (valued_calls (m) false false 0 _).mono ?_
            rintro e w' ⟨rfl, hb'⟩
            simp only [Bundle.val, Bundle.cells]
            have o0 : ob w' w.heap.size = some (.cells #[.int .i64 hc, .bool false, .bool false, .int .i64 0] 42 (0, 0)) := (Chg.of_below (S := fun _ => False) hb').ob (by simp [go_sem]) (fun h => h)
            have o1 : ob w' (w.heap.size + 1) = some (.cells #[.int .i64 0, .bool false, .bool false, .int .i64 0] 42 (0, 0)) := (Chg.of_below (S := fun _ => False) hb').ob (by simp [go_sem]) (fun h => h)
            have o2 : ob w' (w.heap.size + 1 + 1) = some (.cells #[.int .i64 0, .bool false, .bool false, .int .i64 0] 42 (0, 0)) := (Chg.of_below (S := fun _ => False) hb').ob (by simp [go_sem]) (fun h => h)
            have l0 := ob_lt o0
            have l1 := ob_lt o1
            have l2 := ob_lt o2
            obtain ⟨a0, a1, a2, a3, af⟩ := ob_cells4 o0
            obtain ⟨b0, b1, b2, b3, bf⟩ := ob_cells4 o1
            obtain ⟨d0, d1, d2, d3, df⟩ := ob_cells4 o2
            have chg0 : Chg (fun _ => False) w w' := Chg.of_below (below_trans (Chg.below (by repeat (first | with_reducible exact Chg.refl _ _ | with_reducible exact chg0 | with_reducible refine Chg.drewN ?_ _ | with_reducible refine Chg.drew ?_ | with_reducible refine Chg.alloc ?_ _ | with_reducible refine Chg.setCell ?_ _ _ (by first | (simp; done) | omega | (simp; omega)) | with_reducible refine Chg.setBlock ?_ _ _ (by first | (simp; done) | omega | (simp; omega)) | exact Chg.refl _ _))) hb')
            clear hb'
            go_wp2_with fail
            (try (go_big_region; go_wp2_with fail))
            (try simp only [Exit.inBlock, Exit.then])
            refine bodyRet2 _ _ rfl rfl (ResIs.row Tryz.underlying42 rfl (by kernel_rfl) rfl (by simp [go_sem, o0, o1, o2, l0, l1, l2]; exact ⟨rfl, rfl, rfl⟩)) (ResIs.row Tryz.underlying42 rfl (by kernel_rfl) rfl (by simp [go_sem, o0, o1, o2, l0, l1, l2]; exact ⟨rfl, rfl, rfl⟩)) ?_
            refine pure_of ?_ (by repeat (first | with_reducible exact Chg.refl _ _ | with_reducible exact chg0 | with_reducible refine Chg.drewN ?_ _ | with_reducible refine Chg.drew ?_ | with_reducible refine Chg.alloc ?_ _ | with_reducible refine Chg.setCell ?_ _ _ (by first | (simp; done) | omega | (simp; omega)) | with_reducible refine Chg.setBlock ?_ _ _ (by first | (simp; done) | omega | (simp; omega)) | exact Chg.refl _ _))
            rw [HSP.out, if_neg (show ¬ (m ≤ 0) by omega), if_pos (show m = hc by omega)]
            rfl
          case false.true =>
            obtain rfl : hd = 0 := HD.out rfl
            go_wp2_with fail
            refine (valued_calls (m) false false 0 _).mono ?_
            rintro e w' ⟨rfl, hb'⟩
            simp only [Bundle.val, Bundle.cells]
            have o0 : ob w' w.heap.size = some (.cells #[.int .i64 hc, .bool false, .bool false, .int .i64 0] 42 (0, 0)) := (Chg.of_below (S := fun _ => False) hb').ob (by simp [go_sem]) (fun h => h)
            have o1 : ob w' (w.heap.size + 1) = some (.cells #[.int .i64 0, .bool false, .bool false, .int .i64 0] 42 (0, 0)) := (Chg.of_below (S := fun _ => False) hb').ob (by simp [go_sem]) (fun h => h)
            have o2 : ob w' (w.heap.size + 1 + 1) = some (.cells #[.int .i64 0, .bool false, .bool false, .int .i64 0] 42 (0, 0)) := (Chg.of_below (S := fun _ => False) hb').ob (by simp [go_sem]) (fun h => h)
            have l0 := ob_lt o0
            have l1 := ob_lt o1
            have l2 := ob_lt o2
            obtain ⟨a0, a1, a2, a3, af⟩ := ob_cells4 o0
            obtain ⟨b0, b1, b2, b3, bf⟩ := ob_cells4 o1
            obtain ⟨d0, d1, d2, d3, df⟩ := ob_cells4 o2
            have chg0 : Chg (fun _ => False) w w' := Chg.of_below (below_trans (Chg.below (by repeat (first | with_reducible exact Chg.refl _ _ | with_reducible exact chg0 | with_reducible refine Chg.drewN ?_ _ | with_reducible refine Chg.drew ?_ | with_reducible refine Chg.alloc ?_ _ | with_reducible refine Chg.setCell ?_ _ _ (by first | (simp; done) | omega | (simp; omega)) | with_reducible refine Chg.setBlock ?_ _ _ (by first | (simp; done) | omega | (simp; omega)) | exact Chg.refl _ _))) hb')
            clear hb'
            go_wp2_with fail
            (try (go_big_region; go_wp2_with fail))
            (try simp only [Exit.inBlock, Exit.then])
            refine bodyRet2 _ _ rfl rfl (ResIs.row Tryz.underlying42 rfl (by kernel_rfl) rfl (by simp [go_sem, o0, o1, o2, l0, l1, l2]; exact ⟨rfl, rfl, rfl⟩)) (ResIs.row Tryz.underlying42 rfl (by kernel_rfl) rfl (by simp [go_sem, o0, o1, o2, l0, l1, l2]; exact ⟨rfl, rfl, rfl⟩)) ?_
            refine pure_of ?_ (by repeat (first | with_reducible exact Chg.refl _ _ | with_reducible exact chg0 | with_reducible refine Chg.drewN ?_ _ | with_reducible refine Chg.drew ?_ | with_reducible refine Chg.alloc ?_ _ | with_reducible refine Chg.setCell ?_ _ _ (by first | (simp; done) | omega | (simp; omega)) | with_reducible refine Chg.setBlock ?_ _ _ (by first | (simp; done) | omega | (simp; omega)) | exact Chg.refl _ _))
            rw [HSP.out, if_neg (show ¬ (m ≤ 0) by omega), if_pos (show m = hc by omega)]
            rfl
          case true.false =>
            go_wp2_with fail
            refine (valued_calls (m) false false hd _).mono ?_
            rintro e w' ⟨rfl, hb'⟩
            simp only [Bundle.val, Bundle.cells]
            have o0 : ob w' w.heap.size = some (.cells #[.int .i64 hc, .bool false, .bool true, .int .i64 hd] 42 (0, 0)) := (Chg.of_below (S := fun _ => False) hb').ob (by simp [go_sem]) (fun h => h)
            have o1 : ob w' (w.heap.size + 1) = some (.cells #[.int .i64 0, .bool false, .bool false, .int .i64 0] 42 (0, 0)) := (Chg.of_below (S := fun _ => False) hb').ob (by simp [go_sem]) (fun h => h)
            have o2 : ob w' (w.heap.size + 1 + 1) = some (.cells #[.int .i64 0, .bool false, .bool false, .int .i64 0] 42 (0, 0)) := (Chg.of_below (S := fun _ => False) hb').ob (by simp [go_sem]) (fun h => h)
            have l0 := ob_lt o0
            have l1 := ob_lt o1
            have l2 := ob_lt o2
            obtain ⟨a0, a1, a2, a3, af⟩ := ob_cells4 o0
            obtain ⟨b0, b1, b2, b3, bf⟩ := ob_cells4 o1
            obtain ⟨d0, d1, d2, d3, df⟩ := ob_cells4 o2
            have chg0 : Chg (fun _ => False) w w' := Chg.of_below (below_trans (Chg.below (by repeat (first | with_reducible exact Chg.refl _ _ | with_reducible exact chg0 | with_reducible refine Chg.drewN ?_ _ | with_reducible refine Chg.drew ?_ | with_reducible refine Chg.alloc ?_ _ | with_reducible refine Chg.setCell ?_ _ _ (by first | (simp; done) | omega | (simp; omega)) | with_reducible refine Chg.setBlock ?_ _ _ (by first | (simp; done) | omega | (simp; omega)) | exact Chg.refl _ _))) hb')
            clear hb'
            go_wp2_with fail
            (try (go_big_region; go_wp2_with fail))
            (try simp only [Exit.inBlock, Exit.then])
            refine bodyRet2 _ _ rfl rfl (ResIs.row Tryz.underlying42 rfl (by kernel_rfl) rfl (by simp [go_sem, o0, o1, o2, l0, l1, l2]; exact ⟨rfl, rfl, rfl⟩)) (ResIs.row Tryz.underlying42 rfl (by kernel_rfl) rfl (by simp [go_sem, o0, o1, o2, l0, l1, l2]; exact ⟨rfl, rfl, rfl⟩)) ?_
            refine pure_of ?_ (by repeat (first | with_reducible exact Chg.refl _ _ | with_reducible exact chg0 | with_reducible refine Chg.drewN ?_ _ | with_reducible refine Chg.drew ?_ | with_reducible refine Chg.alloc ?_ _ | with_reducible refine Chg.setCell ?_ _ _ (by first | (simp; done) | omega | (simp; omega)) | with_reducible refine Chg.setBlock ?_ _ _ (by first | (simp; done) | omega | (simp; omega)) | exact Chg.refl _ _))
            rw [HSP.out, if_neg (show ¬ (m ≤ 0) by omega), if_pos (show m = hc by omega)]
            rfl
          case true.true =>
            go_wp2_with fail
            refine (valued_calls (m) false true hd _).mono ?_
            rintro e w' ⟨rfl, hb'⟩
            simp only [Bundle.val, Bundle.cells]
            have o0 : ob w' w.heap.size = some (.cells #[.int .i64 hc, .bool false, .bool true, .int .i64 hd] 42 (0, 0)) := (Chg.of_below (S := fun _ => False) hb').ob (by simp [go_sem]) (fun h => h)
            have o1 : ob w' (w.heap.size + 1) = some (.cells #[.int .i64 0, .bool false, .bool false, .int .i64 0] 42 (0, 0)) := (Chg.of_below (S := fun _ => False) hb').ob (by simp [go_sem]) (fun h => h)
            have o2 : ob w' (w.heap.size + 1 + 1) = some (.cells #[.int .i64 0, .bool false, .bool false, .int .i64 0] 42 (0, 0)) := (Chg.of_below (S := fun _ => False) hb').ob (by simp [go_sem]) (fun h => h)
            have l0 := ob_lt o0
            have l1 := ob_lt o1
            have l2 := ob_lt o2
            obtain ⟨a0, a1, a2, a3, af⟩ := ob_cells4 o0
            obtain ⟨b0, b1, b2, b3, bf⟩ := ob_cells4 o1
            obtain ⟨d0, d1, d2, d3, df⟩ := ob_cells4 o2
            have chg0 : Chg (fun _ => False) w w' := Chg.of_below (below_trans (Chg.below (by repeat (first | with_reducible exact Chg.refl _ _ | with_reducible exact chg0 | with_reducible refine Chg.drewN ?_ _ | with_reducible refine Chg.drew ?_ | with_reducible refine Chg.alloc ?_ _ | with_reducible refine Chg.setCell ?_ _ _ (by first | (simp; done) | omega | (simp; omega)) | with_reducible refine Chg.setBlock ?_ _ _ (by first | (simp; done) | omega | (simp; omega)) | exact Chg.refl _ _))) hb')
            clear hb'
            go_wp2_with fail
            (try (go_big_region; go_wp2_with fail))
            (try simp only [Exit.inBlock, Exit.then])
            refine bodyRet2 _ _ rfl rfl (ResIs.row Tryz.underlying42 rfl (by kernel_rfl) rfl (by simp [go_sem, o0, o1, o2, l0, l1, l2]; exact ⟨rfl, rfl, rfl⟩)) (ResIs.row Tryz.underlying42 rfl (by kernel_rfl) rfl (by simp [go_sem, o0, o1, o2, l0, l1, l2]; exact ⟨rfl, rfl, rfl⟩)) ?_
            refine pure_of ?_ (by repeat (first | with_reducible exact Chg.refl _ _ | with_reducible exact chg0 | with_reducible refine Chg.drewN ?_ _ | with_reducible refine Chg.drew ?_ | with_reducible refine Chg.alloc ?_ _ | with_reducible refine Chg.setCell ?_ _ _ (by first | (simp; done) | omega | (simp; omega)) | with_reducible refine Chg.setBlock ?_ _ _ (by first | (simp; done) | omega | (simp; omega)) | exact Chg.refl _ _))
            rw [HSP.out, if_neg (show ¬ (m ≤ 0) by omega), if_pos (show m = hc by omega)]
            rfl
  case true =>
    cases owner
    case false =>
      by_cases q0 : m = hc
      · obtain ⟨n, hn⟩ : ∃ n, n = hc - 1 := ⟨_, rfl⟩
        replace e1 : IntKind.i64.wrap (hc - 1) = n := by rw [hn]; exact e1
        have hmin : min m n = n := by omega
        have e3 : IntKind.i64.wrap (hc - n) = hc - n := by rw [IntKind.wrap_i64]; omega
        have hgp : gp = (n, false) := by rw [HGP.out, if_pos rfl, if_neg (by simp), if_pos q0, q0, hn]
        have HNN := Lib.hid hn
        have hn1 : n < hc := by omega
        have hn2 : -1 ≤ n := by omega
        subst hgp
        clear hn q0
        by_cases q1 : n < 1
        · have q1' : decide (n < 1) = true := by simpa using q1
          go_wp2_with fail
          (try (go_big_region; go_wp2_with fail))
          (try simp only [Exit.inBlock, Exit.then])
          refine bodyRet2 _ _ rfl rfl (ResIs.row Tryz.underlying42 rfl (by kernel_rfl) rfl (by simp [go_sem]; exact ⟨rfl, rfl, rfl⟩)) (ResIs.row Tryz.underlying42 rfl (by kernel_rfl) rfl (by simp [go_sem]; exact ⟨rfl, rfl, rfl⟩)) ?_
          refine pure_of ?_ (by repeat (first | with_reducible exact Chg.refl _ _ | with_reducible exact chg0 | with_reducible refine Chg.drewN ?_ _ | with_reducible refine Chg.drew ?_ | with_reducible refine Chg.alloc ?_ _ | with_reducible refine Chg.setCell ?_ _ _ (by first | (simp; done) | omega | (simp; omega)) | with_reducible refine Chg.setBlock ?_ _ _ (by first | (simp; done) | omega | (simp; omega)) | exact Chg.refl _ _))
          rw [HSP.out, if_pos (by first | omega | (simp; done) | (simp; omega))]
          first | rfl | (simp_all [Bundle.none]; done)
        · have q1' : decide (n < 1) = false := by simpa using q1
          have q2' : decide (n < hc) = true := by simp; omega
          cases hh <;> cases data
          case false.false =>
            obtain rfl : hd = 0 := HD.out rfl
            go_wp2_with fail
            refine (valued_calls (n) false false 0 _).mono ?_
            rintro e w' ⟨rfl, hb'⟩
            simp only [Bundle.val, Bundle.cells]
            have o0 : ob w' w.heap.size = some (.cells #[.int .i64 hc, .bool true, .bool false, .int .i64 0] 42 (0, 0)) := (Chg.of_below (S := fun _ => False) hb').ob (by simp [go_sem]) (fun h => h)
            have o1 : ob w' (w.heap.size + 1) = some (.cells #[.int .i64 0, .bool false, .bool false, .int .i64 0] 42 (0, 0)) := (Chg.of_below (S := fun _ => False) hb').ob (by simp [go_sem]) (fun h => h)
            have o2 : ob w' (w.heap.size + 1 + 1) = some (.cells #[.int .i64 0, .bool false, .bool false, .int .i64 0] 42 (0, 0)) := (Chg.of_below (S := fun _ => False) hb').ob (by simp [go_sem]) (fun h => h)
            have l0 := ob_lt o0
            have l1 := ob_lt o1
            have l2 := ob_lt o2
            obtain ⟨a0, a1, a2, a3, af⟩ := ob_cells4 o0
            obtain ⟨b0, b1, b2, b3, bf⟩ := ob_cells4 o1
            obtain ⟨d0, d1, d2, d3, df⟩ := ob_cells4 o2
            have chg0 : Chg (fun _ => False) w w' := Chg.of_below (below_trans (Chg.below (by repeat (first | with_reducible exact Chg.refl _ _ | with_reducible exact chg0 | with_reducible refine Chg.drewN ?_ _ | with_reducible refine Chg.drew ?_ | with_reducible refine Chg.alloc ?_ _ | with_reducible refine Chg.setCell ?_ _ _ (by first | (simp; done) | omega | (simp; omega)) | with_reducible refine Chg.setBlock ?_ _ _ (by first | (simp; done) | omega | (simp; omega)) | exact Chg.refl _ _))) hb')
            clear hb'
            go_wp2_with fail
            refine (valued_calls (hc - (n)) true false 0 _).mono ?_
            rintro e w2 ⟨rfl, hb'⟩
            simp only [Bundle.val, Bundle.cells]
            have o0x : ob w2 w.heap.size = some (.cells #[.int .i64 hc, .bool true, .bool false, .int .i64 0] 42 (0, 0)) := (Chg.of_below (S := fun _ => False) hb').ob (by simp [go_sem, o0, o1, o2, l0, l1, l2]) (fun h => h)
            have o1x : ob w2 (w.heap.size + 1) = some (.cells #[.int .i64 (Bundle.valued (n) false false 0).count, .bool (Bundle.valued (n) false false 0).owner, .bool (Bundle.valued (n) false false 0).has, .int .i64 (Bundle.valued (n) false false 0).data] 42 (0, 0)) := (Chg.of_below (S := fun _ => False) hb').ob (by simp [go_sem, o0, o1, o2, l0, l1, l2]) (fun h => h)
            have o2x : ob w2 (w.heap.size + 1 + 1) = some (.cells #[.int .i64 0, .bool false, .bool false, .int .i64 0] 42 (0, 0)) := (Chg.of_below (S := fun _ => False) hb').ob (by simp [go_sem, o0, o1, o2, l0, l1, l2]) (fun h => h)
            have l0x := ob_lt o0x
            have l1x := ob_lt o1x
            have l2x := ob_lt o2x
            obtain ⟨a0x, a1x, a2x, a3x, afx⟩ := ob_cells4 o0x
            obtain ⟨b0x, b1x, b2x, b3x, bfx⟩ := ob_cells4 o1x
            obtain ⟨d0x, d1x, d2x, d3x, dfx⟩ := ob_cells4 o2x
            have chg1 : Chg (fun _ => False) w w2 := Chg.of_below (below_trans (Chg.below (by repeat (first | with_reducible exact Chg.refl _ _ | with_reducible exact chg0 | with_reducible refine Chg.drewN ?_ _ | with_reducible refine Chg.drew ?_ | with_reducible refine Chg.alloc ?_ _ | with_reducible refine Chg.setCell ?_ _ _ (by first | (simp; done) | omega | (simp; omega)) | with_reducible refine Chg.setBlock ?_ _ _ (by first | (simp; done) | omega | (simp; omega)) | exact Chg.refl _ _))) hb')
            replace chg0 := chg1
            clear hb' o0 o1 o2 l0 l1 l2 a0 a1 a2 a3 af b0 b1 b2 b3 bf d0 d1 d2 d3 df
            go_wp2_with fail
            (try (go_big_region; go_wp2_with fail))
            (try simp only [Exit.inBlock, Exit.then])
            refine bodyRet2 _ _ rfl rfl (ResIs.row Tryz.underlying42 rfl (by kernel_rfl) rfl (by simp [go_sem, o0x, o1x, o2x, l0x, l1x, l2x]; exact ⟨rfl, rfl, rfl⟩)) (ResIs.row Tryz.underlying42 rfl (by kernel_rfl) rfl (by simp [go_sem, o0x, o1x, o2x, l0x, l1x, l2x]; exact ⟨rfl, rfl, rfl⟩)) ?_
            refine pure_of ?_ (by repeat (first | with_reducible exact Chg.refl _ _ | with_reducible exact chg0 | with_reducible refine Chg.drewN ?_ _ | with_reducible refine Chg.drew ?_ | with_reducible refine Chg.alloc ?_ _ | with_reducible refine Chg.setCell ?_ _ _ (by first | (simp; done) | omega | (simp; omega)) | with_reducible refine Chg.setBlock ?_ _ _ (by first | (simp; done) | omega | (simp; omega)) | exact Chg.refl _ _))
            rw [HSP.out, if_neg (show ¬ (n ≤ 0) by omega), if_neg (show ¬ n = hc by omega)]
            rfl
          case false.true =>
            obtain rfl : hd = 0 := HD.out rfl
            go_wp2_with fail
            refine (valued_calls (n) false false 0 _).mono ?_
            rintro e w' ⟨rfl, hb'⟩
            simp only [Bundle.val, Bundle.cells]
            have o0 : ob w' w.heap.size = some (.cells #[.int .i64 hc, .bool true, .bool false, .int .i64 0] 42 (0, 0)) := (Chg.of_below (S := fun _ => False) hb').ob (by simp [go_sem]) (fun h => h)
            have o1 : ob w' (w.heap.size + 1) = some (.cells #[.int .i64 0, .bool false, .bool false, .int .i64 0] 42 (0, 0)) := (Chg.of_below (S := fun _ => False) hb').ob (by simp [go_sem]) (fun h => h)
            have o2 : ob w' (w.heap.size + 1 + 1) = some (.cells #[.int .i64 0, .bool false, .bool false, .int .i64 0] 42 (0, 0)) := (Chg.of_below (S := fun _ => False) hb').ob (by simp [go_sem]) (fun h => h)
            have l0 := ob_lt o0
            have l1 := ob_lt o1
            have l2 := ob_lt o2
            obtain ⟨a0, a1, a2, a3, af⟩ := ob_cells4 o0
            obtain ⟨b0, b1, b2, b3, bf⟩ := ob_cells4 o1
            obtain ⟨d0, d1, d2, d3, df⟩ := ob_cells4 o2
            have chg0 : Chg (fun _ => False) w w' := Chg.of_below (below_trans (Chg.below (by repeat (first | with_reducible exact Chg.refl _ _ | with_reducible exact chg0 | with_reducible refine Chg.drewN ?_ _ | with_reducible refine Chg.drew ?_ | with_reducible refine Chg.alloc ?_ _ | with_reducible refine Chg.setCell ?_ _ _ (by first | (simp; done) | omega | (simp; omega)) | with_reducible refine Chg.setBlock ?_ _ _ (by first | (simp; done) | omega | (simp; omega)) | exact Chg.refl _ _))) hb')
            clear hb'
            go_wp2_with fail
            refine (valued_calls (hc - (n)) true false 0 _).mono ?_
            rintro e w2 ⟨rfl, hb'⟩
            simp only [Bundle.val, Bundle.cells]
            have o0x : ob w2 w.heap.size = some (.cells #[.int .i64 hc, .bool true, .bool false, .int .i64 0] 42 (0, 0)) := (Chg.of_below (S := fun _ => False) hb').ob (by simp [go_sem, o0, o1, o2, l0, l1, l2]) (fun h => h)
            have o1x : ob w2 (w.heap.size + 1) = some (.cells #[.int .i64 (Bundle.valued (n) false false 0).count, .bool (Bundle.valued (n) false false 0).owner, .bool (Bundle.valued (n) false false 0).has, .int .i64 (Bundle.valued (n) false false 0).data] 42 (0, 0)) := (Chg.of_below (S := fun _ => False) hb').ob (by simp [go_sem, o0, o1, o2, l0, l1, l2]) (fun h => h)
            have o2x : ob w2 (w.heap.size + 1 + 1) = some (.cells #[.int .i64 0, .bool false, .bool false, .int .i64 0] 42 (0, 0)) := (Chg.of_below (S := fun _ => False) hb').ob (by simp [go_sem, o0, o1, o2, l0, l1, l2]) (fun h => h)
            have l0x := ob_lt o0x
            have l1x := ob_lt o1x
            have l2x := ob_lt o2x
            obtain ⟨a0x, a1x, a2x, a3x, afx⟩ := ob_cells4 o0x
            obtain ⟨b0x, b1x, b2x, b3x, bfx⟩ := ob_cells4 o1x
            obtain ⟨d0x, d1x, d2x, d3x, dfx⟩ := ob_cells4 o2x
            have chg1 : Chg (fun _ => False) w w2 := Chg.of_below (below_trans (Chg.below (by repeat (first | with_reducible exact Chg.refl _ _ | with_reducible exact chg0 | with_reducible refine Chg.drewN ?_ _ | with_reducible refine Chg.drew ?_ | with_reducible refine Chg.alloc ?_ _ | with_reducible refine Chg.setCell ?_ _ _ (by first | (simp; done) | omega | (simp; omega)) | with_reducible refine Chg.setBlock ?_ _ _ (by first | (simp; done) | omega | (simp; omega)) | exact Chg.refl _ _))) hb')
            replace chg0 := chg1
            clear hb' o0 o1 o2 l0 l1 l2 a0 a1 a2 a3 af b0 b1 b2 b3 bf d0 d1 d2 d3 df
            go_wp2_with fail
            (try (go_big_region; go_wp2_with fail))
            (try simp only [Exit.inBlock, Exit.then])
            refine bodyRet2 _ _ rfl rfl (ResIs.row Tryz.underlying42 rfl (by kernel_rfl) rfl (by simp [go_sem, o0x, o1x, o2x, l0x, l1x, l2x]; exact ⟨rfl, rfl, rfl⟩)) (ResIs.row Tryz.underlying42 rfl (by kernel_rfl) rfl (by simp [go_sem, o0x, o1x, o2x, l0x, l1x, l2x]; exact ⟨rfl, rfl, rfl⟩)) ?_
            refine pure_of ?_ (by repeat (first | with_reducible exact Chg.refl _ _ | with_reducible exact chg0 | with_reducible refine Chg.drewN ?_ _ | with_reducible refine Chg.drew ?_ | with_reducible refine Chg.alloc ?_ _ | with_reducible refine Chg.setCell ?_ _ _ (by first | (simp; done) | omega | (simp; omega)) | with_reducible refine Chg.setBlock ?_ _ _ (by first | (simp; done) | omega | (simp; omega)) | exact Chg.refl _ _))
            rw [HSP.out, if_neg (show ¬ (n ≤ 0) by omega), if_neg (show ¬ n = hc by omega)]
            rfl
          case true.false =>
            go_wp2_with fail
            refine (valued_calls (n) false false hd _).mono ?_
            rintro e w' ⟨rfl, hb'⟩
            simp only [Bundle.val, Bundle.cells]
            have o0 : ob w' w.heap.size = some (.cells #[.int .i64 hc, .bool true, .bool true, .int .i64 hd] 42 (0, 0)) := (Chg.of_below (S := fun _ => False) hb').ob (by simp [go_sem]) (fun h => h)
            have o1 : ob w' (w.heap.size + 1) = some (.cells #[.int .i64 0, .bool false, .bool false, .int .i64 0] 42 (0, 0)) := (Chg.of_below (S := fun _ => False) hb').ob (by simp [go_sem]) (fun h => h)
            have o2 : ob w' (w.heap.size + 1 + 1) = some (.cells #[.int .i64 0, .bool false, .bool false, .int .i64 0] 42 (0, 0)) := (Chg.of_below (S := fun _ => False) hb').ob (by simp [go_sem]) (fun h => h)
            have l0 := ob_lt o0
            have l1 := ob_lt o1
            have l2 := ob_lt o2
            obtain ⟨a0, a1, a2, a3, af⟩ := ob_cells4 o0
            obtain ⟨b0, b1, b2, b3, bf⟩ := ob_cells4 o1
            obtain ⟨d0, d1, d2, d3, df⟩ := ob_cells4 o2
            have chg0 : Chg (fun _ => False) w w' := Chg.of_below (below_trans (Chg.below (by repeat (first | with_reducible exact Chg.refl _ _ | with_reducible exact chg0 | with_reducible refine Chg.drewN ?_ _ | with_reducible refine Chg.drew ?_ | with_reducible refine Chg.alloc ?_ _ | with_reducible refine Chg.setCell ?_ _ _ (by first | (simp; done) | omega | (simp; omega)) | with_reducible refine Chg.setBlock ?_ _ _ (by first | (simp; done) | omega | (simp; omega)) | exact Chg.refl _ _))) hb')
            clear hb'
            go_wp2_with fail
            refine (valued_calls (hc - (n)) true true hd _).mono ?_
            rintro e w2 ⟨rfl, hb'⟩
            simp only [Bundle.val, Bundle.cells]
            have o0x : ob w2 w.heap.size = some (.cells #[.int .i64 hc, .bool true, .bool true, .int .i64 hd] 42 (0, 0)) := (Chg.of_below (S := fun _ => False) hb').ob (by simp [go_sem, o0, o1, o2, l0, l1, l2]) (fun h => h)
            have o1x : ob w2 (w.heap.size + 1) = some (.cells #[.int .i64 (Bundle.valued (n) false false hd).count, .bool (Bundle.valued (n) false false hd).owner, .bool (Bundle.valued (n) false false hd).has, .int .i64 (Bundle.valued (n) false false hd).data] 42 (0, 0)) := (Chg.of_below (S := fun _ => False) hb').ob (by simp [go_sem, o0, o1, o2, l0, l1, l2]) (fun h => h)
            have o2x : ob w2 (w.heap.size + 1 + 1) = some (.cells #[.int .i64 0, .bool false, .bool false, .int .i64 0] 42 (0, 0)) := (Chg.of_below (S := fun _ => False) hb').ob (by simp [go_sem, o0, o1, o2, l0, l1, l2]) (fun h => h)
            have l0x := ob_lt o0x
            have l1x := ob_lt o1x
            have l2x := ob_lt o2x
            obtain ⟨a0x, a1x, a2x, a3x, afx⟩ := ob_cells4 o0x
            obtain ⟨b0x, b1x, b2x, b3x, bfx⟩ := ob_cells4 o1x
            obtain ⟨d0x, d1x, d2x, d3x, dfx⟩ := ob_cells4 o2x
            have chg1 : Chg (fun _ => False) w w2 := Chg.of_below (below_trans (Chg.below (by repeat (first | with_reducible exact Chg.refl _ _ | with_reducible exact chg0 | with_reducible refine Chg.drewN ?_ _ | with_reducible refine Chg.drew ?_ | with_reducible refine Chg.alloc ?_ _ | with_reducible refine Chg.setCell ?_ _ _ (by first | (simp; done) | omega | (simp; omega)) | with_reducible refine Chg.setBlock ?_ _ _ (by first | (simp; done) | omega | (simp; omega)) | exact Chg.refl _ _))) hb')
            replace chg0 := chg1
            clear hb' o0 o1 o2 l0 l1 l2 a0 a1 a2 a3 af b0 b1 b2 b3 bf d0 d1 d2 d3 df
            go_wp2_with fail
            (try (go_big_region; go_wp2_with fail))
            (try simp only [Exit.inBlock, Exit.then])
            refine bodyRet2 _ _ rfl rfl (ResIs.row Tryz.underlying42 rfl (by kernel_rfl) rfl (by simp [go_sem, o0x, o1x, o2x, l0x, l1x, l2x]; exact ⟨rfl, rfl, rfl⟩)) (ResIs.row Tryz.underlying42 rfl (by kernel_rfl) rfl (by simp [go_sem, o0x, o1x, o2x, l0x, l1x, l2x]; exact ⟨rfl, rfl, rfl⟩)) ?_
            refine pure_of ?_ (by repeat (first | with_reducible exact Chg.refl _ _ | with_reducible exact chg0 | with_reducible refine Chg.drewN ?_ _ | with_reducible refine Chg.drew ?_ | with_reducible refine Chg.alloc ?_ _ | with_reducible refine Chg.setCell ?_ _ _ (by first | (simp; done) | omega | (simp; omega)) | with_reducible refine Chg.setBlock ?_ _ _ (by first | (simp; done) | omega | (simp; omega)) | exact Chg.refl _ _))
            rw [HSP.out, if_neg (show ¬ (n ≤ 0) by omega), if_neg (show ¬ n = hc by omega)]
            rfl
          case true.true =>
            go_wp2_with fail
            refine (valued_calls (n) false true hd _).mono ?_
            rintro e w' ⟨rfl, hb'⟩
            simp only [Bundle.val, Bundle.cells]
            have o0 : ob w' w.heap.size = some (.cells #[.int .i64 hc, .bool true, .bool true, .int .i64 hd] 42 (0, 0)) := (Chg.of_below (S := fun _ => False) hb').ob (by simp [go_sem]) (fun h => h)
            have o1 : ob w' (w.heap.size + 1) = some (.cells #[.int .i64 0, .bool false, .bool false, .int .i64 0] 42 (0, 0)) := (Chg.of_below (S := fun _ => False) hb').ob (by simp [go_sem]) (fun h => h)
            have o2 : ob w' (w.heap.size + 1 + 1) = some (.cells #[.int .i64 0, .bool false, .bool false, .int .i64 0] 42 (0, 0)) := (Chg.of_below (S := fun _ => False) hb').ob (by simp [go_sem]) (fun h => h)
            have l0 := ob_lt o0
            have l1 := ob_lt o1
            have l2 := ob_lt o2
            obtain ⟨a0, a1, a2, a3, af⟩ := ob_cells4 o0
            obtain ⟨b0, b1, b2, b3, bf⟩ := ob_cells4 o1
            obtain ⟨d0, d1, d2, d3, df⟩ := ob_cells4 o2
            have chg0 : Chg (fun _ => False) w w' := Chg.of_below (below_trans (Chg.below (by repeat (first | with_reducible exact Chg.refl _ _ | with_reducible exact chg0 | with_reducible refine Chg.drewN ?_ _ | with_reducible refine Chg.drew ?_ | with_reducible refine Chg.alloc ?_ _ | with_reducible refine Chg.setCell ?_ _ _ (by first | (simp; done) | omega | (simp; omega)) | with_reducible refine Chg.setBlock ?_ _ _ (by first | (simp; done) | omega | (simp; omega)) | exact Chg.refl _ _))) hb')
            clear hb'
            go_wp2_with fail
            refine (valued_calls (hc - (n)) true true hd _).mono ?_
            rintro e w2 ⟨rfl, hb'⟩
            simp only [Bundle.val, Bundle.cells]
            have o0x : ob w2 w.heap.size = some (.cells #[.int .i64 hc, .bool true, .bool true, .int .i64 hd] 42 (0, 0)) := (Chg.of_below (S := fun _ => False) hb').ob (by simp [go_sem, o0, o1, o2, l0, l1, l2]) (fun h => h)
            have o1x : ob w2 (w.heap.size + 1) = some (.cells #[.int .i64 (Bundle.valued (n) false true hd).count, .bool (Bundle.valued (n) false true hd).owner, .bool (Bundle.valued (n) false true hd).has, .int .i64 (Bundle.valued (n) false true hd).data] 42 (0, 0)) := (Chg.of_below (S := fun _ => False) hb').ob (by simp [go_sem, o0, o1, o2, l0, l1, l2]) (fun h => h)
            have o2x : ob w2 (w.heap.size + 1 + 1) = some (.cells #[.int .i64 0, .bool false, .bool false, .int .i64 0] 42 (0, 0)) := (Chg.of_below (S := fun _ => False) hb').ob (by simp [go_sem, o0, o1, o2, l0, l1, l2]) (fun h => h)
            have l0x := ob_lt o0x
            have l1x := ob_lt o1x
            have l2x := ob_lt o2x
            obtain ⟨a0x, a1x, a2x, a3x, afx⟩ := ob_cells4 o0x
            obtain ⟨b0x, b1x, b2x, b3x, bfx⟩ := ob_cells4 o1x
            obtain ⟨d0x, d1x, d2x, d3x, dfx⟩ := ob_cells4 o2x
            have chg1 : Chg (fun _ => False) w w2 := Chg.of_below (below_trans (Chg.below (by repeat (first | with_reducible exact Chg.refl _ _ | with_reducible exact chg0 | with_reducible refine Chg.drewN ?_ _ | with_reducible refine Chg.drew ?_ | with_reducible refine Chg.alloc ?_ _ | with_reducible refine Chg.setCell ?_ _ _ (by first | (simp; done) | omega | (simp; omega)) | with_reducible refine Chg.setBlock ?_ _ _ (by first | (simp; done) | omega | (simp; omega)) | exact Chg.refl _ _))) hb')
            replace chg0 := chg1
            clear hb' o0 o1 o2 l0 l1 l2 a0 a1 a2 a3 af b0 b1 b2 b3 bf d0 d1 d2 d3 df
            go_wp2_with fail
            (try (go_big_region; go_wp2_with fail))
            (try simp only [Exit.inBlock, Exit.then])
            refine bodyRet2 _ _ rfl rfl (ResIs.row Tryz.underlying42 rfl (by kernel_rfl) rfl (by simp [go_sem, o0x, o1x, o2x, l0x, l1x, l2x]; exact ⟨rfl, rfl, rfl⟩)) (ResIs.row Tryz.underlying42 rfl (by kernel_rfl) rfl (by simp [go_sem, o0x, o1x, o2x, l0x, l1x, l2x]; exact ⟨rfl, rfl, rfl⟩)) ?_
            refine pure_of ?_ (by repeat (first | with_reducible exact Chg.refl _ _ | with_reducible exact chg0 | with_reducible refine Chg.drewN ?_ _ | with_reducible refine Chg.drew ?_ | with_reducible refine Chg.alloc ?_ _ | with_reducible refine Chg.setCell ?_ _ _ (by first | (simp; done) | omega | (simp; omega)) | with_reducible refine Chg.setBlock ?_ _ _ (by first | (simp; done) | omega | (simp; omega)) | exact Chg.refl _ _))
            rw [HSP.out, if_neg (show ¬ (n ≤ 0) by omega), if_neg (show ¬ n = hc by omega)]
            rfl
      · have hmin : min m (hc - 1) = m := by omega
        have hgp : gp = (m, false) := by rw [HGP.out, if_pos rfl, if_neg (by simp), if_neg q0]
        have hn1 : m < hc := by omega
        subst hgp
        by_cases q1 : m < 1
        · have q1' : decide (m < 1) = true := by simpa using q1
          go_wp2_with fail
          (try (go_big_region; go_wp2_with fail))
          (try simp only [Exit.inBlock, Exit.then])
          refine bodyRet2 _ _ rfl rfl (ResIs.row Tryz.underlying42 rfl (by kernel_rfl) rfl (by simp [go_sem]; exact ⟨rfl, rfl, rfl⟩)) (ResIs.row Tryz.underlying42 rfl (by kernel_rfl) rfl (by simp [go_sem]; exact ⟨rfl, rfl, rfl⟩)) ?_
          refine pure_of ?_ (by repeat (first | with_reducible exact Chg.refl _ _ | with_reducible exact chg0 | with_reducible refine Chg.drewN ?_ _ | with_reducible refine Chg.drew ?_ | with_reducible refine Chg.alloc ?_ _ | with_reducible refine Chg.setCell ?_ _ _ (by first | (simp; done) | omega | (simp; omega)) | with_reducible refine Chg.setBlock ?_ _ _ (by first | (simp; done) | omega | (simp; omega)) | exact Chg.refl _ _))
          rw [HSP.out, if_pos (by first | omega | (simp; done) | (simp; omega))]
          first | rfl | (simp_all [Bundle.none]; done)
        · have q1' : decide (m < 1) = false := by simpa using q1
          have q2' : decide (m < hc) = true := by simp; omega
          cases hh <;> cases data
          case false.false =>
            obtain rfl : hd = 0 := HD.out rfl
            go_wp2_with fail
            refine (valued_calls (m) false false 0 _).mono ?_
            rintro e w' ⟨rfl, hb'⟩
            simp only [Bundle.val, Bundle.cells]
            have o0 : ob w' w.heap.size = some (.cells #[.int .i64 hc, .bool true, .bool false, .int .i64 0] 42 (0, 0)) := (Chg.of_below (S := fun _ => False) hb').ob (by simp [go_sem]) (fun h => h)
            have o1 : ob w' (w.heap.size + 1) = some (.cells #[.int .i64 0, .bool false, .bool false, .int .i64 0] 42 (0, 0)) := (Chg.of_below (S := fun _ => False) hb').ob (by simp [go_sem]) (fun h => h)
            have o2 : ob w' (w.heap.size + 1 + 1) = some (.cells #[.int .i64 0, .bool false, .bool false, .int .i64 0] 42 (0, 0)) := (Chg.of_below (S := fun _ => False) hb').ob (by simp [go_sem]) (fun h => h)
            have l0 := ob_lt o0
            have l1 := ob_lt o1
            have l2 := ob_lt o2
            obtain ⟨a0, a1, a2, a3, af⟩ := ob_cells4 o0
            obtain ⟨b0, b1, b2, b3, bf⟩ := ob_cells4 o1
            obtain ⟨d0, d1, d2, d3, df⟩ := ob_cells4 o2
            have chg0 : Chg (fun _ => False) w w' := Chg.of_below (below_trans (Chg.below (by repeat (first | with_reducible exact Chg.refl _ _ | with_reducible exact chg0 | with_reducible refine Chg.drewN ?_ _ | with_reducible refine Chg.drew ?_ | with_reducible refine Chg.alloc ?_ _ | with_reducible refine Chg.setCell ?_ _ _ (by first | (simp; done) | omega | (simp; omega)) | with_reducible refine Chg.setBlock ?_ _ _ (by first | (simp; done) | omega | (simp; omega)) | exact Chg.refl _ _))) hb')
            clear hb'
            go_wp2_with fail
            refine (valued_calls (hc - (m)) true false 0 _).mono ?_
            rintro e w2 ⟨rfl, hb'⟩
            simp only [Bundle.val, Bundle.cells]
            have o0x : ob w2 w.heap.size = some (.cells #[.int .i64 hc, .bool true, .bool false, .int .i64 0] 42 (0, 0)) := (Chg.of_below (S := fun _ => False) hb').ob (by simp [go_sem, o0, o1, o2, l0, l1, l2]) (fun h => h)
            have o1x : ob w2 (w.heap.size + 1) = some (.cells #[.int .i64 (Bundle.valued (m) false false 0).count, .bool (Bundle.valued (m) false false 0).owner, .bool (Bundle.valued (m) false false 0).has, .int .i64 (Bundle.valued (m) false false 0).data] 42 (0, 0)) := (Chg.of_below (S := fun _ => False) hb').ob (by simp [go_sem, o0, o1, o2, l0, l1, l2]) (fun h => h)
            have o2x : ob w2 (w.heap.size + 1 + 1) = some (.cells #[.int .i64 0, .bool false, .bool false, .int .i64 0] 42 (0, 0)) := (Chg.of_below (S := fun _ => False) hb').ob (by simp [go_sem, o0, o1, o2, l0, l1, l2]) (fun h => h)
            have l0x := ob_lt o0x
            have l1x := ob_lt o1x
            have l2x := ob_lt o2x
            obtain ⟨a0x, a1x, a2x, a3x, afx⟩ := ob_cells4 o0x
            obtain ⟨b0x, b1x, b2x, b3x, bfx⟩ := ob_cells4 o1x
            obtain ⟨d0x, d1x, d2x, d3x, dfx⟩ := ob_cells4 o2x
            have chg1 : Chg (fun _ => False) w w2 := Chg.of_below (below_trans (Chg.below (by repeat (first | with_reducible exact Chg.refl _ _ | with_reducible exact chg0 | with_reducible refine Chg.drewN ?_ _ | with_reducible refine Chg.drew ?_ | with_reducible refine Chg.alloc ?_ _ | with_reducible refine Chg.setCell ?_ _ _ (by first | (simp; done) | omega | (simp; omega)) | with_reducible refine Chg.setBlock ?_ _ _ (by first | (simp; done) | omega | (simp; omega)) | exact Chg.refl _ _))) hb')
            replace chg0 := chg1
            clear hb' o0 o1 o2 l0 l1 l2 a0 a1 a2 a3 af b0 b1 b2 b3 bf d0 d1 d2 d3 df
            go_wp2_with fail
            (try (go_big_region; go_wp2_with fail))
            (try simp only [Exit.inBlock, Exit.then])
            refine bodyRet2 _ _ rfl rfl (ResIs.row Tryz.underlying42 rfl (by kernel_rfl) rfl (by simp [go_sem, o0x, o1x, o2x, l0x, l1x, l2x]; exact ⟨rfl, rfl, rfl⟩)) (ResIs.row Tryz.underlying42 rfl (by kernel_rfl) rfl (by simp [go_sem, o0x, o1x, o2x, l0x, l1x, l2x]; exact ⟨rfl, rfl, rfl⟩)) ?_
            refine pure_of ?_ (by repeat (first | with_reducible exact Chg.refl _ _ | with_reducible exact chg0 | with_reducible refine Chg.drewN ?_ _ | with_reducible refine Chg.drew ?_ | with_reducible refine Chg.alloc ?_ _ | with_reducible refine Chg.setCell ?_ _ _ (by first | (simp; done) | omega | (simp; omega)) | with_reducible refine Chg.setBlock ?_ _ _ (by first | (simp; done) | omega | (simp; omega)) | exact Chg.refl _ _))
            rw [HSP.out, if_neg (show ¬ (m ≤ 0) by omega), if_neg (show ¬ m = hc by omega)]
            rfl
          case false.true =>
            obtain rfl : hd = 0 := HD.out rfl
            go_wp2_with fail
            refine (valued_calls (m) false false 0 _).mono ?_
            rintro e w' ⟨rfl, hb'⟩
            simp only [Bundle.val, Bundle.cells]
            have o0 : ob w' w.heap.size = some (.cells #[.int .i64 hc, .bool true, .bool false, .int .i64 0] 42 (0, 0)) := (Chg.of_below (S := fun _ => False) hb').ob (by simp [go_sem]) (fun h => h)
            have o1 : ob w' (w.heap.size + 1) = some (.cells #[.int .i64 0, .bool false, .bool false, .int .i64 0] 42 (0, 0)) := (Chg.of_below (S := fun _ => False) hb').ob (by simp [go_sem]) (fun h => h)
            have o2 : ob w' (w.heap.size + 1 + 1) = some (.cells #[.int .i64 0, .bool false, .bool false, .int .i64 0] 42 (0, 0)) := (Chg.of_below (S := fun _ => False) hb').ob (by simp [go_sem]) (fun h => h)
            have l0 := ob_lt o0
            have l1 := ob_lt o1
            have l2 := ob_lt o2
            obtain ⟨a0, a1, a2, a3, af⟩ := ob_cells4 o0
            obtain ⟨b0, b1, b2, b3, bf⟩ := ob_cells4 o1
            obtain ⟨d0, d1, d2, d3, df⟩ := ob_cells4 o2
            have chg0 : Chg (fun _ => False) w w' := Chg.of_below (below_trans (Chg.below (by repeat (first | with_reducible exact Chg.refl _ _ | with_reducible exact chg0 | with_reducible refine Chg.drewN ?_ _ | with_reducible refine Chg.drew ?_ | with_reducible refine Chg.alloc ?_ _ | with_reducible refine Chg.setCell ?_ _ _ (by first | (simp; done) | omega | (simp; omega)) | with_reducible refine Chg.setBlock ?_ _ _ (by first | (simp; done) | omega | (simp; omega)) | exact Chg.refl _ _))) hb')
            clear hb'
            go_wp2_with fail
            refine (valued_calls (hc - (m)) true false 0 _).mono ?_
            rintro e w2 ⟨rfl, hb'⟩
            simp only [Bundle.val, Bundle.cells]
            have o0x : ob w2 w.heap.size = some (.cells #[.int .i64 hc, .bool true, .bool false, .int .i64 0] 42 (0, 0)) := (Chg.of_below (S := fun _ => False) hb').ob (by simp [go_sem, o0, o1, o2, l0, l1, l2]) (fun h => h)
            have o1x : ob w2 (w.heap.size + 1) = some (.cells #[.int .i64 (Bundle.valued (m) false false 0).count, .bool (Bundle.valued (m) false false 0).owner, .bool (Bundle.valued (m) false false 0).has, .int .i64 (Bundle.valued (m) false false 0).data] 42 (0, 0)) := (Chg.of_below (S := fun _ => False) hb').ob (by simp [go_sem, o0, o1, o2, l0, l1, l2]) (fun h => h)
            have o2x : ob w2 (w.heap.size + 1 + 1) = some (.cells #[.int .i64 0, .bool false, .bool false, .int .i64 0] 42 (0, 0)) := (Chg.of_below (S := fun _ => False) hb').ob (by simp [go_sem, o0, o1, o2, l0, l1, l2]) (fun h => h)
            have l0x := ob_lt o0x
            have l1x := ob_lt o1x
            have l2x := ob_lt o2x
            obtain ⟨a0x, a1x, a2x, a3x, afx⟩ := ob_cells4 o0x
            obtain ⟨b0x, b1x, b2x, b3x, bfx⟩ := ob_cells4 o1x
            obtain ⟨d0x, d1x, d2x, d3x, dfx⟩ := ob_cells4 o2x
            have chg1 : Chg (fun _ => False) w w2 := Chg.of_below (below_trans (Chg.below (by repeat (first | with_reducible exact Chg.refl _ _ | with_reducible exact chg0 | with_reducible refine Chg.drewN ?_ _ | with_reducible refine Chg.drew ?_ | with_reducible refine Chg.alloc ?_ _ | with_reducible refine Chg.setCell ?_ _ _ (by first | (simp; done) | omega | (simp; omega)) | with_reducible refine Chg.setBlock ?_ _ _ (by first | (simp; done) | omega | (simp; omega)) | exact Chg.refl _ _))) hb')
            replace chg0 := chg1
            clear hb' o0 o1 o2 l0 l1 l2 a0 a1 a2 a3 af b0 b1 b2 b3 bf d0 d1 d2 d3 df
            go_wp2_with fail
            (try (go_big_region; go_wp2_with fail))
            (try simp only [Exit.inBlock, Exit.then])
            refine bodyRet2 _ _ rfl rfl (ResIs.row Tryz.underlying42 rfl (by kernel_rfl) rfl (by simp [go_sem, o0x, o1x, o2x, l0x, l1x, l2x]; exact ⟨rfl, rfl, rfl⟩)) (ResIs.row Tryz.underlying42 rfl (by kernel_rfl) rfl (by simp [go_sem, o0x, o1x, o2x, l0x, l1x, l2x]; exact ⟨rfl, rfl, rfl⟩)) ?_
            refine pure_of ?_ (by repeat (first | with_reducible exact Chg.refl _ _ | with_reducible exact chg0 | with_reducible refine Chg.drewN ?_ _ | with_reducible refine Chg.drew ?_ | with_reducible refine Chg.alloc ?_ _ | with_reducible refine Chg.setCell ?_ _ _ (by first | (simp; done) | omega | (simp; omega)) | with_reducible refine Chg.setBlock ?_ _ _ (by first | (simp; done) | omega | (simp; omega)) | exact Chg.refl _ _))
            rw [HSP.out, if_neg (show ¬ (m ≤ 0) by omega), if_neg (show ¬ m = hc by omega)]
            rfl
          case true.false =>
            go_wp2_with fail
            refine (valued_calls (m) false false hd _).mono ?_
            rintro e w' ⟨rfl, hb'⟩
            simp only [Bundle.val, Bundle.cells]
            have o0 : ob w' w.heap.size = some (.cells #[.int .i64 hc, .bool true, .bool true, .int .i64 hd] 42 (0, 0)) := (Chg.of_below (S := fun _ => False) hb').ob (by simp [go_sem]) (fun h => h)
            have o1 : ob w' (w.heap.size + 1) = some (.cells #[.int .i64 0, .bool false, .bool false, .int .i64 0] 42 (0, 0)) := (Chg.of_below (S := fun _ => False) hb').ob (by simp [go_sem]) (fun h => h)
            have o2 : ob w' (w.heap.size + 1 + 1) = some (.cells #[.int .i64 0, .bool false, .bool false, .int .i64 0] 42 (0, 0)) := (Chg.of_below (S := fun _ => False) hb').ob (by simp [go_sem]) (fun h => h)
            have l0 := ob_lt o0
            have l1 := ob_lt o1
            have l2 := ob_lt o2
            obtain ⟨a0, a1, a2, a3, af⟩ := ob_cells4 o0
            obtain ⟨b0, b1, b2, b3, bf⟩ := ob_cells4 o1
            obtain ⟨d0, d1, d2, d3, df⟩ := ob_cells4 o2
            have chg0 : Chg (fun _ => False) w w' := Chg.of_below (below_trans (Chg.below (by repeat (first | with_reducible exact Chg.refl _ _ | with_reducible exact chg0 | with_reducible refine Chg.drewN ?_ _ | with_reducible refine Chg.drew ?_ | with_reducible refine Chg.alloc ?_ _ | with_reducible refine Chg.setCell ?_ _ _ (by first | (simp; done) | omega | (simp; omega)) | with_reducible refine Chg.setBlock ?_ _ _ (by first | (simp; done) | omega | (simp; omega)) | exact Chg.refl _ _))) hb')
            clear hb'
            go_wp2_with fail
            refine (valued_calls (hc - (m)) true true hd _).mono ?_
            rintro e w2 ⟨rfl, hb'⟩
            simp only [Bundle.val, Bundle.cells]
            have o0x : ob w2 w.heap.size = some (.cells #[.int .i64 hc, .bool true, .bool true, .int .i64 hd] 42 (0, 0)) := (Chg.of_below (S := fun _ => False) hb').ob (by simp [go_sem, o0, o1, o2, l0, l1, l2]) (fun h => h)
            have o1x : ob w2 (w.heap.size + 1) = some (.cells #[.int .i64 (Bundle.valued (m) false false hd).count, .bool (Bundle.valued (m) false false hd).owner, .bool (Bundle.valued (m) false false hd).has, .int .i64 (Bundle.valued (m) false false hd).data] 42 (0, 0)) := (Chg.of_below (S := fun _ => False) hb').ob (by simp [go_sem, o0, o1, o2, l0, l1, l2]) (fun h => h)
            have o2x : ob w2 (w.heap.size + 1 + 1) = some (.cells #[.int .i64 0, .bool false, .bool false, .int .i64 0] 42 (0, 0)) := (Chg.of_below (S := fun _ => False) hb').ob (by simp [go_sem, o0, o1, o2, l0, l1, l2]) (fun h => h)
            have l0x := ob_lt o0x
            have l1x := ob_lt o1x
            have l2x := ob_lt o2x
            obtain ⟨a0x, a1x, a2x, a3x, afx⟩ := ob_cells4 o0x
            obtain ⟨b0x, b1x, b2x, b3x, bfx⟩ := ob_cells4 o1x
            obtain ⟨d0x, d1x, d2x, d3x, dfx⟩ := ob_cells4 o2x
            have chg1 : Chg (fun _ => False) w w2 := Chg.of_below (below_trans (Chg.below (by repeat (first | with_reducible exact Chg.refl _ _ | with_reducible exact chg0 | with_reducible refine Chg.drewN ?_ _ | with_reducible refine Chg.drew ?_ | with_reducible refine Chg.alloc ?_ _ | with_reducible refine Chg.setCell ?_ _ _ (by first | (simp; done) | omega | (simp; omega)) | with_reducible refine Chg.setBlock ?_ _ _ (by first | (simp; done) | omega | (simp; omega)) | exact Chg.refl _ _))) hb')
            replace chg0 := chg1
            clear hb' o0 o1 o2 l0 l1 l2 a0 a1 a2 a3 af b0 b1 b2 b3 bf d0 d1 d2 d3 df
            go_wp2_with fail
            (try (go_big_region; go_wp2_with fail))
            (try simp only [Exit.inBlock, Exit.then])
            refine bodyRet2 _ _ rfl rfl (ResIs.row Tryz.underlying42 rfl (by kernel_rfl) rfl (by simp [go_sem, o0x, o1x, o2x, l0x, l1x, l2x]; exact ⟨rfl, rfl, rfl⟩)) (ResIs.row Tryz.underlying42 rfl (by kernel_rfl) rfl (by simp [go_sem, o0x, o1x, o2x, l0x, l1x, l2x]; exact ⟨rfl, rfl, rfl⟩)) ?_
            refine pure_of ?_ (by repeat (first | with_reducible exact Chg.refl _ _ | with_reducible exact chg0 | with_reducible refine Chg.drewN ?_ _ | with_reducible refine Chg.drew ?_ | with_reducible refine Chg.alloc ?_ _ | with_reducible refine Chg.setCell ?_ _ _ (by first | (simp; done) | omega | (simp; omega)) | with_reducible refine Chg.setBlock ?_ _ _ (by first | (simp; done) | omega | (simp; omega)) | exact Chg.refl _ _))
            rw [HSP.out, if_neg (show ¬ (m ≤ 0) by omega), if_neg (show ¬ m = hc by omega)]
            rfl
          case true.true =>
            go_wp2_with fail
            refine (valued_calls (m) false true hd _).mono ?_
            rintro e w' ⟨rfl, hb'⟩
            simp only [Bundle.val, Bundle.cells]
            have o0 : ob w' w.heap.size = some (.cells #[.int .i64 hc, .bool true, .bool true, .int .i64 hd] 42 (0, 0)) := (Chg.of_below (S := fun _ => False) hb').ob (by simp [go_sem]) (fun h => h)
            have o1 : ob w' (w.heap.size + 1) = some (.cells #[.int .i64 0, .bool false, .bool false, .int .i64 0] 42 (0, 0)) := (Chg.of_below (S := fun _ => False) hb').ob (by simp [go_sem]) (fun h => h)
            have o2 : ob w' (w.heap.size + 1 + 1) = some (.cells #[.int .i64 0, .bool false, .bool false, .int .i64 0] 42 (0, 0)) := (Chg.of_below (S := fun _ => False) hb').ob (by simp [go_sem]) (fun h => h)
            have l0 := ob_lt o0
            have l1 := ob_lt o1
            have l2 := ob_lt o2
            obtain ⟨a0, a1, a2, a3, af⟩ := ob_cells4 o0
            obtain ⟨b0, b1, b2, b3, bf⟩ := ob_cells4 o1
            obtain ⟨d0, d1, d2, d3, df⟩ := ob_cells4 o2
            have chg0 : Chg (fun _ => False) w w' := Chg.of_below (below_trans (Chg.below (by repeat (first | with_reducible exact Chg.refl _ _ | with_reducible exact chg0 | with_reducible refine Chg.drewN ?_ _ | with_reducible refine Chg.drew ?_ | with_reducible refine Chg.alloc ?_ _ | with_reducible refine Chg.setCell ?_ _ _ (by first | (simp; done) | omega | (simp; omega)) | with_reducible refine Chg.setBlock ?_ _ _ (by first | (simp; done) | omega | (simp; omega)) | exact Chg.refl _ _))) hb')
            clear hb'
            go_wp2_with fail
            refine (valued_calls (hc - (m)) true true hd _).mono ?_
            rintro e w2 ⟨rfl, hb'⟩
            simp only [Bundle.val, Bundle.cells]
            have o0x : ob w2 w.heap.size = some (.cells #[.int .i64 hc, .bool true, .bool true, .int .i64 hd] 42 (0, 0)) := (Chg.of_below (S := fun _ => False) hb').ob (by simp [go_sem, o0, o1, o2, l0, l1, l2]) (fun h => h)
            have o1x : ob w2 (w.heap.size + 1) = some (.cells #[.int .i64 (Bundle.valued (m) false true hd).count, .bool (Bundle.valued (m) false true hd).owner, .bool (Bundle.valued (m) false true hd).has, .int .i64 (Bundle.valued (m) false true hd).data] 42 (0, 0)) := (Chg.of_below (S := fun _ => False) hb').ob (by simp [go_sem, o0, o1, o2, l0, l1, l2]) (fun h => h)
            have o2x : ob w2 (w.heap.size + 1 + 1) = some (.cells #[.int .i64 0, .bool false, .bool false, .int .i64 0] 42 (0, 0)) := (Chg.of_below (S := fun _ => False) hb').ob (by simp [go_sem, o0, o1, o2, l0, l1, l2]) (fun h => h)
            have l0x := ob_lt o0x
            have l1x := ob_lt o1x
            have l2x := ob_lt o2x
            obtain ⟨a0x, a1x, a2x, a3x, afx⟩ := ob_cells4 o0x
            obtain ⟨b0x, b1x, b2x, b3x, bfx⟩ := ob_cells4 o1x
            obtain ⟨d0x, d1x, d2x, d3x, dfx⟩ := ob_cells4 o2x
            have chg1 : Chg (fun _ => False) w w2 := Chg.of_below (below_trans (Chg.below (by repeat (first | with_reducible exact Chg.refl _ _ | with_reducible exact chg0 | with_reducible refine Chg.drewN ?_ _ | with_reducible refine Chg.drew ?_ | with_reducible refine Chg.alloc ?_ _ | with_reducible refine Chg.setCell ?_ _ _ (by first | (simp; done) | omega | (simp; omega)) | with_reducible refine Chg.setBlock ?_ _ _ (by first | (simp; done) | omega | (simp; omega)) | exact Chg.refl _ _))) hb')
            replace chg0 := chg1
            clear hb' o0 o1 o2 l0 l1 l2 a0 a1 a2 a3 af b0 b1 b2 b3 bf d0 d1 d2 d3 df
            go_wp2_with fail
            (try (go_big_region; go_wp2_with fail))
            (try simp only [Exit.inBlock, Exit.then])
            refine bodyRet2 _ _ rfl rfl (ResIs.row Tryz.underlying42 rfl (by kernel_rfl) rfl (by simp [go_sem, o0x, o1x, o2x, l0x, l1x, l2x]; exact ⟨rfl, rfl, rfl⟩)) (ResIs.row Tryz.underlying42 rfl (by kernel_rfl) rfl (by simp [go_sem, o0x, o1x, o2x, l0x, l1x, l2x]; exact ⟨rfl, rfl, rfl⟩)) ?_
            refine pure_of ?_ (by repeat (first | with_reducible exact Chg.refl _ _ | with_reducible exact chg0 | with_reducible refine Chg.drewN ?_ _ | with_reducible refine Chg.drew ?_ | with_reducible refine Chg.alloc ?_ _ | with_reducible refine Chg.setCell ?_ _ _ (by first | (simp; done) | omega | (simp; omega)) | with_reducible refine Chg.setBlock ?_ _ _ (by first | (simp; done) | omega | (simp; omega)) | exact Chg.refl _ _))
            rw [HSP.out, if_neg (show ¬ (m ≤ 0) by omega), if_neg (show ¬ m = hc by omega)]
            rfl
    case true =>
      by_cases q9 : 0 < m
      · have q9' : decide (0 < m) = true := by simpa using q9
        have hgp : gp = (m, true) := by rw [HGP.out, if_pos rfl, if_pos ⟨rfl, q9⟩]
        subst hgp
        have q1' : decide (m < 1) = false := by simp; omega
        by_cases q2 : m < hc
        · have q2' : decide (m < hc) = true := by simpa using q2
          cases hh <;> cases data
          case false.false =>
            obtain rfl : hd = 0 := HD.out rfl
            go_wp2_with fail
            refine (valued_calls (m) true false 0 _).mono ?_
            rintro e w' ⟨rfl, hb'⟩
            simp only [Bundle.val, Bundle.cells]
            have o0 : ob w' w.heap.size = some (.cells #[.int .i64 hc, .bool true, .bool false, .int .i64 0] 42 (0, 0)) := (Chg.of_below (S := fun _ => False) hb').ob (by simp [go_sem]) (fun h => h)
            have o1 : ob w' (w.heap.size + 1) = some (.cells #[.int .i64 0, .bool false, .bool false, .int .i64 0] 42 (0, 0)) := (Chg.of_below (S := fun _ => False) hb').ob (by simp [go_sem]) (fun h => h)
            have o2 : ob w' (w.heap.size + 1 + 1) = some (.cells #[.int .i64 0, .bool false, .bool false, .int .i64 0] 42 (0, 0)) := (Chg.of_below (S := fun _ => False) hb').ob (by simp [go_sem]) (fun h => h)
            have l0 := ob_lt o0
            have l1 := ob_lt o1
            have l2 := ob_lt o2
            obtain ⟨a0, a1, a2, a3, af⟩ := ob_cells4 o0
            obtain ⟨b0, b1, b2, b3, bf⟩ := ob_cells4 o1
            obtain ⟨d0, d1, d2, d3, df⟩ := ob_cells4 o2
            have chg0 : Chg (fun _ => False) w w' := Chg.of_below (below_trans (Chg.below (by repeat (first | with_reducible exact Chg.refl _ _ | with_reducible exact chg0 | with_reducible refine Chg.drewN ?_ _ | with_reducible refine Chg.drew ?_ | with_reducible refine Chg.alloc ?_ _ | with_reducible refine Chg.setCell ?_ _ _ (by first | (simp; done) | omega | (simp; omega)) | with_reducible refine Chg.setBlock ?_ _ _ (by first | (simp; done) | omega | (simp; omega)) | exact Chg.refl _ _))) hb')
            clear hb'
            go_wp2_with fail
            refine (valued_calls (hc - (m)) false false 0 _).mono ?_
            rintro e w2 ⟨rfl, hb'⟩
            simp only [Bundle.val, Bundle.cells]
            have o0x : ob w2 w.heap.size = some (.cells #[.int .i64 hc, .bool true, .bool false, .int .i64 0] 42 (0, 0)) := (Chg.of_below (S := fun _ => False) hb').ob (by simp [go_sem, o0, o1, o2, l0, l1, l2]) (fun h => h)
            have o1x : ob w2 (w.heap.size + 1) = some (.cells #[.int .i64 (Bundle.valued (m) true false 0).count, .bool (Bundle.valued (m) true false 0).owner, .bool (Bundle.valued (m) true false 0).has, .int .i64 (Bundle.valued (m) true false 0).data] 42 (0, 0)) := (Chg.of_below (S := fun _ => False) hb').ob (by simp [go_sem, o0, o1, o2, l0, l1, l2]) (fun h => h)
            have o2x : ob w2 (w.heap.size + 1 + 1) = some (.cells #[.int .i64 0, .bool false, .bool false, .int .i64 0] 42 (0, 0)) := (Chg.of_below (S := fun _ => False) hb').ob (by simp [go_sem, o0, o1, o2, l0, l1, l2]) (fun h => h)
            have l0x := ob_lt o0x
            have l1x := ob_lt o1x
            have l2x := ob_lt o2x
            obtain ⟨a0x, a1x, a2x, a3x, afx⟩ := ob_cells4 o0x
            obtain ⟨b0x, b1x, b2x, b3x, bfx⟩ := ob_cells4 o1x
            obtain ⟨d0x, d1x, d2x, d3x, dfx⟩ := ob_cells4 o2x
            have chg1 : Chg (fun _ => False) w w2 := Chg.of_below (below_trans (Chg.below (by repeat (first | with_reducible exact Chg.refl _ _ | with_reducible exact chg0 | with_reducible refine Chg.drewN ?_ _ | with_reducible refine Chg.drew ?_ | with_reducible refine Chg.alloc ?_ _ | with_reducible refine Chg.setCell ?_ _ _ (by first | (simp; done) | omega | (simp; omega)) | with_reducible refine Chg.setBlock ?_ _ _ (by first | (simp; done) | omega | (simp; omega)) | exact Chg.refl _ _))) hb')
            replace chg0 := chg1
            clear hb' o0 o1 o2 l0 l1 l2 a0 a1 a2 a3 af b0 b1 b2 b3 bf d0 d1 d2 d3 df
            go_wp2_with fail
            (try (go_big_region; go_wp2_with fail))
            (try simp only [Exit.inBlock, Exit.then])
            refine bodyRet2 _ _ rfl rfl (ResIs.row Tryz.underlying42 rfl (by kernel_rfl) rfl (by simp [go_sem, o0x, o1x, o2x, l0x, l1x, l2x]; exact ⟨rfl, rfl, rfl⟩)) (ResIs.row Tryz.underlying42 rfl (by kernel_rfl) rfl (by simp [go_sem, o0x, o1x, o2x, l0x, l1x, l2x]; exact ⟨rfl, rfl, rfl⟩)) ?_
            refine pure_of ?_ (by repeat (first | with_reducible exact Chg.refl _ _ | with_reducible exact chg0 | with_reducible refine Chg.drewN ?_ _ | with_reducible refine Chg.drew ?_ | with_reducible refine Chg.alloc ?_ _ | with_reducible refine Chg.setCell ?_ _ _ (by first | (simp; done) | omega | (simp; omega)) | with_reducible refine Chg.setBlock ?_ _ _ (by first | (simp; done) | omega | (simp; omega)) | exact Chg.refl _ _))
            rw [HSP.out, if_neg (show ¬ (m ≤ 0) by omega), if_neg (show ¬ m = hc by omega)]
            rfl
          case false.true =>
            obtain rfl : hd = 0 := HD.out rfl
            go_wp2_with fail
            refine (valued_calls (m) true false 0 _).mono ?_
            rintro e w' ⟨rfl, hb'⟩
            simp only [Bundle.val, Bundle.cells]
            have o0 : ob w' w.heap.size = some (.cells #[.int .i64 hc, .bool true, .bool false, .int .i64 0] 42 (0, 0)) := (Chg.of_below (S := fun _ => False) hb').ob (by simp [go_sem]) (fun h => h)
            have o1 : ob w' (w.heap.size + 1) = some (.cells #[.int .i64 0, .bool false, .bool false, .int .i64 0] 42 (0, 0)) := (Chg.of_below (S := fun _ => False) hb').ob (by simp [go_sem]) (fun h => h)
            have o2 : ob w' (w.heap.size + 1 + 1) = some (.cells #[.int .i64 0, .bool false, .bool false, .int .i64 0] 42 (0, 0)) := (Chg.of_below (S := fun _ => False) hb').ob (by simp [go_sem]) (fun h => h)
            have l0 := ob_lt o0
            have l1 := ob_lt o1
            have l2 := ob_lt o2
            obtain ⟨a0, a1, a2, a3, af⟩ := ob_cells4 o0
            obtain ⟨b0, b1, b2, b3, bf⟩ := ob_cells4 o1
            obtain ⟨d0, d1, d2, d3, df⟩ := ob_cells4 o2
            have chg0 : Chg (fun _ => False) w w' := Chg.of_below (below_trans (Chg.below (by repeat (first | with_reducible exact Chg.refl _ _ | with_reducible exact chg0 | with_reducible refine Chg.drewN ?_ _ | with_reducible refine Chg.drew ?_ | with_reducible refine Chg.alloc ?_ _ | with_reducible refine Chg.setCell ?_ _ _ (by first | (simp; done) | omega | (simp; omega)) | with_reducible refine Chg.setBlock ?_ _ _ (by first | (simp; done) | omega | (simp; omega)) | exact Chg.refl _ _))) hb')
            clear hb'
            go_wp2_with fail
            refine (valued_calls (hc - (m)) false false 0 _).mono ?_
            rintro e w2 ⟨rfl, hb'⟩
            simp only [Bundle.val, Bundle.cells]
            have o0x : ob w2 w.heap.size = some (.cells #[.int .i64 hc, .bool true, .bool false, .int .i64 0] 42 (0, 0)) := (Chg.of_below (S := fun _ => False) hb').ob (by simp [go_sem, o0, o1, o2, l0, l1, l2]) (fun h => h)
            have o1x : ob w2 (w.heap.size + 1) = some (.cells #[.int .i64 (Bundle.valued (m) true false 0).count, .bool (Bundle.valued (m) true false 0).owner, .bool (Bundle.valued (m) true false 0).has, .int .i64 (Bundle.valued (m) true false 0).data] 42 (0, 0)) := (Chg.of_below (S := fun _ => False) hb').ob (by simp [go_sem, o0, o1, o2, l0, l1, l2]) (fun h => h)
            have o2x : ob w2 (w.heap.size + 1 + 1) = some (.cells #[.int .i64 0, .bool false, .bool false, .int .i64 0] 42 (0, 0)) := (Chg.of_below (S := fun _ => False) hb').ob (by simp [go_sem, o0, o1, o2, l0, l1, l2]) (fun h => h)
            have l0x := ob_lt o0x
            have l1x := ob_lt o1x
            have l2x := ob_lt o2x
            obtain ⟨a0x, a1x, a2x, a3x, afx⟩ := ob_cells4 o0x
            obtain ⟨b0x, b1x, b2x, b3x, bfx⟩ := ob_cells4 o1x
            obtain ⟨d0x, d1x, d2x, d3x, dfx⟩ := ob_cells4 o2x
            have chg1 : Chg (fun _ => False) w w2 := Chg.of_below (below_trans (Chg.below (by repeat (first | with_reducible exact Chg.refl _ _ | with_reducible exact chg0 | with_reducible refine Chg.drewN ?_ _ | with_reducible refine Chg.drew ?_ | with_reducible refine Chg.alloc ?_ _ | with_reducible refine Chg.setCell ?_ _ _ (by first | (simp; done) | omega | (simp; omega)) | with_reducible refine Chg.setBlock ?_ _ _ (by first | (simp; done) | omega | (simp; omega)) | exact Chg.refl _ _))) hb')
            replace chg0 := chg1
            clear hb' o0 o1 o2 l0 l1 l2 a0 a1 a2 a3 af b0 b1 b2 b3 bf d0 d1 d2 d3 df
            go_wp2_with fail
            (try (go_big_region; go_wp2_with fail))
            (try simp only [Exit.inBlock, Exit.then])
            refine bodyRet2 _ _ rfl rfl (ResIs.row Tryz.underlying42 rfl (by kernel_rfl) rfl (by simp [go_sem, o0x, o1x, o2x, l0x, l1x, l2x]; exact ⟨rfl, rfl, rfl⟩)) (ResIs.row Tryz.underlying42 rfl (by kernel_rfl) rfl (by simp [go_sem, o0x, o1x, o2x, l0x, l1x, l2x]; exact ⟨rfl, rfl, rfl⟩)) ?_
            refine pure_of ?_ (by repeat (first | with_reducible exact Chg.refl _ _ | with_reducible exact chg0 | with_reducible refine Chg.drewN ?_ _ | with_reducible refine Chg.drew ?_ | with_reducible refine Chg.alloc ?_ _ | with_reducible refine Chg.setCell ?_ _ _ (by first | (simp; done) | omega | (simp; omega)) | with_reducible refine Chg.setBlock ?_ _ _ (by first | (simp; done) | omega | (simp; omega)) | exact Chg.refl _ _))
            rw [HSP.out, if_neg (show ¬ (m ≤ 0) by omega), if_neg (show ¬ m = hc by omega)]
            rfl
          case true.false =>
            go_wp2_with fail
            refine (valued_calls (m) true true hd _).mono ?_
            rintro e w' ⟨rfl, hb'⟩
            simp only [Bundle.val, Bundle.cells]
            have o0 : ob w' w.heap.size = some (.cells #[.int .i64 hc, .bool true, .bool true, .int .i64 hd] 42 (0, 0)) := (Chg.of_below (S := fun _ => False) hb').ob (by simp [go_sem]) (fun h => h)
            have o1 : ob w' (w.heap.size + 1) = some (.cells #[.int .i64 0, .bool false, .bool false, .int .i64 0] 42 (0, 0)) := (Chg.of_below (S := fun _ => False) hb').ob (by simp [go_sem]) (fun h => h)
            have o2 : ob w' (w.heap.size + 1 + 1) = some (.cells #[.int .i64 0, .bool false, .bool false, .int .i64 0] 42 (0, 0)) := (Chg.of_below (S := fun _ => False) hb').ob (by simp [go_sem]) (fun h => h)
            have l0 := ob_lt o0
            have l1 := ob_lt o1
            have l2 := ob_lt o2
            obtain ⟨a0, a1, a2, a3, af⟩ := ob_cells4 o0
            obtain ⟨b0, b1, b2, b3, bf⟩ := ob_cells4 o1
            obtain ⟨d0, d1, d2, d3, df⟩ := ob_cells4 o2
            have chg0 : Chg (fun _ => False) w w' := Chg.of_below (below_trans (Chg.below (by repeat (first | with_reducible exact Chg.refl _ _ | with_reducible exact chg0 | with_reducible refine Chg.drewN ?_ _ | with_reducible refine Chg.drew ?_ | with_reducible refine Chg.alloc ?_ _ | with_reducible refine Chg.setCell ?_ _ _ (by first | (simp; done) | omega | (simp; omega)) | with_reducible refine Chg.setBlock ?_ _ _ (by first | (simp; done) | omega | (simp; omega)) | exact Chg.refl _ _))) hb')
            clear hb'
            go_wp2_with fail
            refine (valued_calls (hc - (m)) false true hd _).mono ?_
            rintro e w2 ⟨rfl, hb'⟩
            simp only [Bundle.val, Bundle.cells]
            have o0x : ob w2 w.heap.size = some (.cells #[.int .i64 hc, .bool true, .bool true, .int .i64 hd] 42 (0, 0)) := (Chg.of_below (S := fun _ => False) hb').ob (by simp [go_sem, o0, o1, o2, l0, l1, l2]) (fun h => h)
            have o1x : ob w2 (w.heap.size + 1) = some (.cells #[.int .i64 (Bundle.valued (m) true true hd).count, .bool (Bundle.valued (m) true true hd).owner, .bool (Bundle.valued (m) true true hd).has, .int .i64 (Bundle.valued (m) true true hd).data] 42 (0, 0)) := (Chg.of_below (S := fun _ => False) hb').ob (by simp [go_sem, o0, o1, o2, l0, l1, l2]) (fun h => h)
            have o2x : ob w2 (w.heap.size + 1 + 1) = some (.cells #[.int .i64 0, .bool false, .bool false, .int .i64 0] 42 (0, 0)) := (Chg.of_below (S := fun _ => False) hb').ob (by simp [go_sem, o0, o1, o2, l0, l1, l2]) (fun h => h)
            have l0x := ob_lt o0x
            have l1x := ob_lt o1x
            have l2x := ob_lt o2x
            obtain ⟨a0x, a1x, a2x, a3x, afx⟩ := ob_cells4 o0x
            obtain ⟨b0x, b1x, b2x, b3x, bfx⟩ := ob_cells4 o1x
            obtain ⟨d0x, d1x, d2x, d3x, dfx⟩ := ob_cells4 o2x
            have chg1 : Chg (fun _ => False) w w2 := Chg.of_below (below_trans (Chg.below (by repeat (first | with_reducible exact Chg.refl _ _ | with_reducible exact chg0 | with_reducible refine Chg.drewN ?_ _ | with_reducible refine Chg.drew ?_ | with_reducible refine Chg.alloc ?_ _ | with_reducible refine Chg.setCell ?_ _ _ (by first | (simp; done) | omega | (simp; omega)) | with_reducible refine Chg.setBlock ?_ _ _ (by first | (simp; done) | omega | (simp; omega)) | exact Chg.refl _ _))) hb')
            replace chg0 := chg1
            clear hb' o0 o1 o2 l0 l1 l2 a0 a1 a2 a3 af b0 b1 b2 b3 bf d0 d1 d2 d3 df
            go_wp2_with fail
            (try (go_big_region; go_wp2_with fail))
            (try simp only [Exit.inBlock, Exit.then])
            refine bodyRet2 _ _ rfl rfl (ResIs.row Tryz.underlying42 rfl (by kernel_rfl) rfl (by simp [go_sem, o0x, o1x, o2x, l0x, l1x, l2x]; exact ⟨rfl, rfl, rfl⟩)) (ResIs.row Tryz.underlying42 rfl (by kernel_rfl) rfl (by simp [go_sem, o0x, o1x, o2x, l0x, l1x, l2x]; exact ⟨rfl, rfl, rfl⟩)) ?_
            refine pure_of ?_ (by repeat (first | with_reducible exact Chg.refl _ _ | with_reducible exact chg0 | with_reducible refine Chg.drewN ?_ _ | with_reducible refine Chg.drew ?_ | with_reducible refine Chg.alloc ?_ _ | with_reducible refine Chg.setCell ?_ _ _ (by first | (simp; done) | omega | (simp; omega)) | with_reducible refine Chg.setBlock ?_ _ _ (by first | (simp; done) | omega | (simp; omega)) | exact Chg.refl _ _))
            rw [HSP.out, if_neg (show ¬ (m ≤ 0) by omega), if_neg (show ¬ m = hc by omega)]
            rfl
          case true.true =>
            go_wp2_with fail
            refine (valued_calls (m) true true hd _).mono ?_
            rintro e w' ⟨rfl, hb'⟩
            simp only [Bundle.val, Bundle.cells]
            have o0 : ob w' w.heap.size = some (.cells #[.int .i64 hc, .bool true, .bool true, .int .i64 hd] 42 (0, 0)) := (Chg.of_below (S := fun _ => False) hb').ob (by simp [go_sem]) (fun h => h)
            have o1 : ob w' (w.heap.size + 1) = some (.cells #[.int .i64 0, .bool false, .bool false, .int .i64 0] 42 (0, 0)) := (Chg.of_below (S := fun _ => False) hb').ob (by simp [go_sem]) (fun h => h)
            have o2 : ob w' (w.heap.size + 1 + 1) = some (.cells #[.int .i64 0, .bool false, .bool false, .int .i64 0] 42 (0, 0)) := (Chg.of_below (S := fun _ => False) hb').ob (by simp [go_sem]) (fun h => h)
            have l0 := ob_lt o0
            have l1 := ob_lt o1
            have l2 := ob_lt o2
            obtain ⟨a0, a1, a2, a3, af⟩ := ob_cells4 o0
            obtain ⟨b0, b1, b2, b3, bf⟩ := ob_cells4 o1
            obtain ⟨d0, d1, d2, d3, df⟩ := ob_cells4 o2
            have chg0 : Chg (fun _ => False) w w' := Chg.of_below (below_trans (Chg.below (by repeat (first | with_reducible exact Chg.refl _ _ | with_reducible exact chg0 | with_reducible refine Chg.drewN ?_ _ | with_reducible refine Chg.drew ?_ | with_reducible refine Chg.alloc ?_ _ | with_reducible refine Chg.setCell ?_ _ _ (by first | (simp; done) | omega | (simp; omega)) | with_reducible refine Chg.setBlock ?_ _ _ (by first | (simp; done) | omega | (simp; omega)) | exact Chg.refl _ _))) hb')
            clear hb'
            go_wp2_with fail
            refine (valued_calls (hc - (m)) false true hd _).mono ?_
            rintro e w2 ⟨rfl, hb'⟩
            simp only [Bundle.val, Bundle.cells]
            have o0x : ob w2 w.heap.size = some (.cells #[.int .i64 hc, .bool true, .bool true, .int .i64 hd] 42 (0, 0)) := (Chg.of_below (S := fun _ => False) hb').ob (by simp [go_sem, o0, o1, o2, l0, l1, l2]) (fun h => h)
            have o1x : ob w2 (w.heap.size + 1) = some (.cells #[.int .i64 (Bundle.valued (m) true true hd).count, .bool (Bundle.valued (m) true true hd).owner, .bool (Bundle.valued (m) true true hd).has, .int .i64 (Bundle.valued (m) true true hd).data] 42 (0, 0)) := (Chg.of_below (S := fun _ => False) hb').ob (by simp [go_sem, o0, o1, o2, l0, l1, l2]) (fun h => h)
            have o2x : ob w2 (w.heap.size + 1 + 1) = some (.cells #[.int .i64 0, .bool false, .bool false, .int .i64 0] 42 (0, 0)) := (Chg.of_below (S := fun _ => False) hb').ob (by simp [go_sem, o0, o1, o2, l0, l1, l2]) (fun h => h)
            have l0x := ob_lt o0x
            have l1x := ob_lt o1x
            have l2x := ob_lt o2x
            obtain ⟨a0x, a1x, a2x, a3x, afx⟩ := ob_cells4 o0x
            obtain ⟨b0x, b1x, b2x, b3x, bfx⟩ := ob_cells4 o1x
            obtain ⟨d0x, d1x, d2x, d3x, dfx⟩ := ob_cells4 o2x
            have chg1 : Chg (fun _ => False) w w2 := Chg.of_below (below_trans (Chg.below (by repeat (first | with_reducible exact Chg.refl _ _ | with_reducible exact chg0 | with_reducible refine Chg.drewN ?_ _ | with_reducible refine Chg.drew ?_ | with_reducible refine Chg.alloc ?_ _ | with_reducible refine Chg.setCell ?_ _ _ (by first | (simp; done) | omega | (simp; omega)) | with_reducible refine Chg.setBlock ?_ _ _ (by first | (simp; done) | omega | (simp; omega)) | exact Chg.refl _ _))) hb')
            replace chg0 := chg1
            clear hb' o0 o1 o2 l0 l1 l2 a0 a1 a2 a3 af b0 b1 b2 b3 bf d0 d1 d2 d3 df
            go_wp2_with fail
            (try (go_big_region; go_wp2_with fail))
            (try simp only [Exit.inBlock, Exit.then])
            refine bodyRet2 _ _ rfl rfl (ResIs.row Tryz.underlying42 rfl (by kernel_rfl) rfl (by simp [go_sem, o0x, o1x, o2x, l0x, l1x, l2x]; exact ⟨rfl, rfl, rfl⟩)) (ResIs.row Tryz.underlying42 rfl (by kernel_rfl) rfl (by simp [go_sem, o0x, o1x, o2x, l0x, l1x, l2x]; exact ⟨rfl, rfl, rfl⟩)) ?_
            refine pure_of ?_ (by repeat (first | with_reducible exact Chg.refl _ _ | with_reducible exact chg0 | with_reducible refine Chg.drewN ?_ _ | with_reducible refine Chg.drew ?_ | with_reducible refine Chg.alloc ?_ _ | with_reducible refine Chg.setCell ?_ _ _ (by first | (simp; done) | omega | (simp; omega)) | with_reducible refine Chg.setBlock ?_ _ _ (by first | (simp; done) | omega | (simp; omega)) | exact Chg.refl _ _))
            rw [HSP.out, if_neg (show ¬ (m ≤ 0) by omega), if_neg (show ¬ m = hc by omega)]
            rfl
        · have q2' : decide (m < hc) = false := by simpa using q2
          cases hh <;> cases data
          case false.false =>
            obtain rfl : hd = 0 := HD.out rfl
            go_wp2_with fail
            refine (valued_calls (m) true false 0 _).mono ?_
            rintro e w' ⟨rfl, hb'⟩
            simp only [Bundle.val, Bundle.cells]
            have o0 : ob w' w.heap.size = some (.cells #[.int .i64 hc, .bool true, .bool false, .int .i64 0] 42 (0, 0)) := (Chg.of_below (S := fun _ => False) hb').ob (by simp [go_sem]) (fun h => h)
            have o1 : ob w' (w.heap.size + 1) = some (.cells #[.int .i64 0, .bool false, .bool false, .int .i64 0] 42 (0, 0)) := (Chg.of_below (S := fun _ => False) hb').ob (by simp [go_sem]) (fun h => h)
            have o2 : ob w' (w.heap.size + 1 + 1) = some (.cells #[.int .i64 0, .bool false, .bool false, .int .i64 0] 42 (0, 0)) := (Chg.of_below (S := fun _ => False) hb').ob (by simp [go_sem]) (fun h => h)
            have l0 := ob_lt o0
            have l1 := ob_lt o1
            have l2 := ob_lt o2
            obtain ⟨a0, a1, a2, a3, af⟩ := ob_cells4 o0
            obtain ⟨b0, b1, b2, b3, bf⟩ := ob_cells4 o1
            obtain ⟨d0, d1, d2, d3, df⟩ := ob_cells4 o2
            have chg0 : Chg (fun _ => False) w w' := Chg.of_below (below_trans (Chg.below (by repeat (first | with_reducible exact Chg.refl _ _ | with_reducible exact chg0 | with_reducible refine Chg.drewN ?_ _ | with_reducible refine Chg.drew ?_ | with_reducible refine Chg.alloc ?_ _ | with_reducible refine Chg.setCell ?_ _ _ (by first | (simp; done) | omega | (simp; omega)) | with_reducible refine Chg.setBlock ?_ _ _ (by first | (simp; done) | omega | (simp; omega)) | exact Chg.refl _ _))) hb')
            clear hb'
            go_wp2_with fail
            (try (go_big_region; go_wp2_with fail))
            (try simp only [Exit.inBlock, Exit.then])
            refine bodyRet2 _ _ rfl rfl (ResIs.row Tryz.underlying42 rfl (by kernel_rfl) rfl (by simp [go_sem, o0, o1, o2, l0, l1, l2]; exact ⟨rfl, rfl, rfl⟩)) (ResIs.row Tryz.underlying42 rfl (by kernel_rfl) rfl (by simp [go_sem, o0, o1, o2, l0, l1, l2]; exact ⟨rfl, rfl, rfl⟩)) ?_
            refine pure_of ?_ (by repeat (first | with_reducible exact Chg.refl _ _ | with_reducible exact chg0 | with_reducible refine Chg.drewN ?_ _ | with_reducible refine Chg.drew ?_ | with_reducible refine Chg.alloc ?_ _ | with_reducible refine Chg.setCell ?_ _ _ (by first | (simp; done) | omega | (simp; omega)) | with_reducible refine Chg.setBlock ?_ _ _ (by first | (simp; done) | omega | (simp; omega)) | exact Chg.refl _ _))
            rw [HSP.out, if_neg (show ¬ (m ≤ 0) by omega), if_pos (show m = hc by omega)]
            rfl
          case false.true =>
            obtain rfl : hd = 0 := HD.out rfl
            go_wp2_with fail
            refine (valued_calls (m) true false 0 _).mono ?_
            rintro e w' ⟨rfl, hb'⟩
            simp only [Bundle.val, Bundle.cells]
            have o0 : ob w' w.heap.size = some (.cells #[.int .i64 hc, .bool true, .bool false, .int .i64 0] 42 (0, 0)) := (Chg.of_below (S := fun _ => False) hb').ob (by simp [go_sem]) (fun h => h)
            have o1 : ob w' (w.heap.size + 1) = some (.cells #[.int .i64 0, .bool false, .bool false, .int .i64 0] 42 (0, 0)) := (Chg.of_below (S := fun _ => False) hb').ob (by simp [go_sem]) (fun h => h)
            have o2 : ob w' (w.heap.size + 1 + 1) = some (.cells #[.int .i64 0, .bool false, .bool false, .int .i64 0] 42 (0, 0)) := (Chg.of_below (S := fun _ => False) hb').ob (by simp [go_sem]) (fun h => h)
            have l0 := ob_lt o0
            have l1 := ob_lt o1
            have l2 := ob_lt o2
            obtain ⟨a0, a1, a2, a3, af⟩ := ob_cells4 o0
            obtain ⟨b0, b1, b2, b3, bf⟩ := ob_cells4 o1
            obtain ⟨d0, d1, d2, d3, df⟩ := ob_cells4 o2
            have chg0 : Chg (fun _ => False) w w' := Chg.of_below (below_trans (Chg.below (by repeat (first | with_reducible exact Chg.refl _ _ | with_reducible exact chg0 | with_reducible refine Chg.drewN ?_ _ | with_reducible refine Chg.drew ?_ | with_reducible refine Chg.alloc ?_ _ | with_reducible refine Chg.setCell ?_ _ _ (by first | (simp; done) | omega | (simp; omega)) | with_reducible refine Chg.setBlock ?_ _ _ (by first | (simp; done) | omega | (simp; omega)) | exact Chg.refl _ _))) hb')
            clear hb'
            go_wp2_with fail
            (try (go_big_region; go_wp2_with fail))
            (try simp only [Exit.inBlock, Exit.then])
            refine bodyRet2 _ _ rfl rfl (ResIs.row Tryz.underlying42 rfl (by kernel_rfl) rfl (by simp [go_sem, o0, o1, o2, l0, l1, l2]; exact ⟨rfl, rfl, rfl⟩)) (ResIs.row Tryz.underlying42 rfl (by kernel_rfl) rfl (by simp [go_sem, o0, o1, o2, l0, l1, l2]; exact ⟨rfl, rfl, rfl⟩)) ?_
            refine pure_of ?_ (by repeat (first | with_reducible exact Chg.refl _ _ | with_reducible exact chg0 | with_reducible refine Chg.drewN ?_ _ | with_reducible refine Chg.drew ?_ | with_reducible refine Chg.alloc ?_ _ | with_reducible refine Chg.setCell ?_ _ _ (by first | (simp; done) | omega | (simp; omega)) | with_reducible refine Chg.setBlock ?_ _ _ (by first | (simp; done) | omega | (simp; omega)) | exact Chg.refl _ _))
            rw [HSP.out, if_neg (show ¬ (m ≤ 0) by omega), if_pos (show m = hc by omega)]
            rfl
          case true.false =>
            go_wp2_with fail
            refine (valued_calls (m) true true hd _).mono ?_
            rintro e w' ⟨rfl, hb'⟩
            simp only [Bundle.val, Bundle.cells]
            have o0 : ob w' w.heap.size = some (.cells #[.int .i64 hc, .bool true, .bool true, .int .i64 hd] 42 (0, 0)) := (Chg.of_below (S := fun _ => False) hb').ob (by simp [go_sem]) (fun h => h)
            have o1 : ob w' (w.heap.size + 1) = some (.cells #[.int .i64 0, .bool false, .bool false, .int .i64 0] 42 (0, 0)) := (Chg.of_below (S := fun _ => False) hb').ob (by simp [go_sem]) (fun h => h)
            have o2 : ob w' (w.heap.size + 1 + 1) = some (.cells #[.int .i64 0, .bool false, .bool false, .int .i64 0] 42 (0, 0)) := (Chg.of_below (S := fun _ => False) hb').ob (by simp [go_sem]) (fun h => h)
            have l0 := ob_lt o0
            have l1 := ob_lt o1
            have l2 := ob_lt o2
            obtain ⟨a0, a1, a2, a3, af⟩ := ob_cells4 o0
            obtain ⟨b0, b1, b2, b3, bf⟩ := ob_cells4 o1
            obtain ⟨d0, d1, d2, d3, df⟩ := ob_cells4 o2
            have chg0 : Chg (fun _ => False) w w' := Chg.of_below (below_trans (Chg.below (by repeat (first | with_reducible exact Chg.refl _ _ | with_reducible exact chg0 | with_reducible refine Chg.drewN ?_ _ | with_reducible refine Chg.drew ?_ | with_reducible refine Chg.alloc ?_ _ | with_reducible refine Chg.setCell ?_ _ _ (by first | (simp; done) | omega | (simp; omega)) | with_reducible refine Chg.setBlock ?_ _ _ (by first | (simp; done) | omega | (simp; omega)) | exact Chg.refl _ _))) hb')
            clear hb'
            go_wp2_with fail
            (try (go_big_region; go_wp2_with fail))
            (try simp only [Exit.inBlock, Exit.then])
            refine bodyRet2 _ _ rfl rfl (ResIs.row Tryz.underlying42 rfl (by kernel_rfl) rfl (by simp [go_sem, o0, o1, o2, l0, l1, l2]; exact ⟨rfl, rfl, rfl⟩)) (ResIs.row Tryz.underlying42 rfl (by kernel_rfl) rfl (by simp [go_sem, o0, o1, o2, l0, l1, l2]; exact ⟨rfl, rfl, rfl⟩)) ?_
            refine pure_of ?_ (by repeat (first | with_reducible exact Chg.refl _ _ | with_reducible exact chg0 | with_reducible refine Chg.drewN ?_ _ | with_reducible refine Chg.drew ?_ | with_reducible refine Chg.alloc ?_ _ | with_reducible refine Chg.setCell ?_ _ _ (by first | (simp; done) | omega | (simp; omega)) | with_reducible refine Chg.setBlock ?_ _ _ (by first | (simp; done) | omega | (simp; omega)) | exact Chg.refl _ _))
            rw [HSP.out, if_neg (show ¬ (m ≤ 0) by omega), if_pos (show m = hc by omega)]
            rfl
          case true.true =>
            go_wp2_with fail
            refine (valued_calls (m) true true hd _).mono ?_
            rintro e w' ⟨rfl, hb'⟩
            simp only [Bundle.val, Bundle.cells]
            have o0 : ob w' w.heap.size = some (.cells #[.int .i64 hc, .bool true, .bool true, .int .i64 hd] 42 (0, 0)) := (Chg.of_below (S := fun _ => False) hb').ob (by simp [go_sem]) (fun h => h)
            have o1 : ob w' (w.heap.size + 1) = some (.cells #[.int .i64 0, .bool false, .bool false, .int .i64 0] 42 (0, 0)) := (Chg.of_below (S := fun _ => False) hb').ob (by simp [go_sem]) (fun h => h)
            have o2 : ob w' (w.heap.size + 1 + 1) = some (.cells #[.int .i64 0, .bool false, .bool false, .int .i64 0] 42 (0, 0)) := (Chg.of_below (S := fun _ => False) hb').ob (by simp [go_sem]) (fun h => h)
            have l0 := ob_lt o0
            have l1 := ob_lt o1
            have l2 := ob_lt o2
            obtain ⟨a0, a1, a2, a3, af⟩ := ob_cells4 o0
            obtain ⟨b0, b1, b2, b3, bf⟩ := ob_cells4 o1
            obtain ⟨d0, d1, d2, d3, df⟩ := ob_cells4 o2
            have chg0 : Chg (fun _ => False) w w' := Chg.of_below (below_trans (Chg.below (by repeat (first | with_reducible exact Chg.refl _ _ | with_reducible exact chg0 | with_reducible refine Chg.drewN ?_ _ | with_reducible refine Chg.drew ?_ | with_reducible refine Chg.alloc ?_ _ | with_reducible refine Chg.setCell ?_ _ _ (by first | (simp; done) | omega | (simp; omega)) | with_reducible refine Chg.setBlock ?_ _ _ (by first | (simp; done) | omega | (simp; omega)) | exact Chg.refl _ _))) hb')
            clear hb'
            go_wp2_with fail
            (try (go_big_region; go_wp2_with fail))
            (try simp only [Exit.inBlock, Exit.then])
            refine bodyRet2 _ _ rfl rfl (ResIs.row Tryz.underlying42 rfl (by kernel_rfl) rfl (by simp [go_sem, o0, o1, o2, l0, l1, l2]; exact ⟨rfl, rfl, rfl⟩)) (ResIs.row Tryz.underlying42 rfl (by kernel_rfl) rfl (by simp [go_sem, o0, o1, o2, l0, l1, l2]; exact ⟨rfl, rfl, rfl⟩)) ?_
            refine pure_of ?_ (by repeat (first | with_reducible exact Chg.refl _ _ | with_reducible exact chg0 | with_reducible refine Chg.drewN ?_ _ | with_reducible refine Chg.drew ?_ | with_reducible refine Chg.alloc ?_ _ | with_reducible refine Chg.setCell ?_ _ _ (by first | (simp; done) | omega | (simp; omega)) | with_reducible refine Chg.setBlock ?_ _ _ (by first | (simp; done) | omega | (simp; omega)) | exact Chg.refl _ _))
            rw [HSP.out, if_neg (show ¬ (m ≤ 0) by omega), if_pos (show m = hc by omega)]
            rfl
      · have q9' : decide (0 < m) = false := by simpa using q9
        obtain rfl : m = 0 := by omega
        by_cases q8 : hc = 0
        · subst q8
          have hmin : min (0 : Int) (0 - 1) = -1 := by omega
          have hgp : gp = (0 - 1, false) := by rw [HGP.out, if_pos rfl, if_neg (by simp), if_pos rfl]
          subst hgp
          go_wp2_with fail
          (try (go_big_region; go_wp2_with fail))
          (try simp only [Exit.inBlock, Exit.then])
          refine bodyRet2 _ _ rfl rfl (ResIs.row Tryz.underlying42 rfl (by kernel_rfl) rfl (by simp [go_sem]; exact ⟨rfl, rfl, rfl⟩)) (ResIs.row Tryz.underlying42 rfl (by kernel_rfl) rfl (by simp [go_sem]; exact ⟨rfl, rfl, rfl⟩)) ?_
          refine pure_of ?_ (by repeat (first | with_reducible exact Chg.refl _ _ | with_reducible exact chg0 | with_reducible refine Chg.drewN ?_ _ | with_reducible refine Chg.drew ?_ | with_reducible refine Chg.alloc ?_ _ | with_reducible refine Chg.setCell ?_ _ _ (by first | (simp; done) | omega | (simp; omega)) | with_reducible refine Chg.setBlock ?_ _ _ (by first | (simp; done) | omega | (simp; omega)) | exact Chg.refl _ _))
          rw [HSP.out, if_pos (by first | omega | (simp; done) | (simp; omega))]
          first | rfl | (simp_all [Bundle.none]; done)
        · have hmin : min (0 : Int) (hc - 1) = 0 := by omega
          have hgp : gp = (0, false) := by rw [HGP.out, if_pos rfl, if_neg (by simp), if_neg (by omega)]
          subst hgp
          go_wp2_with fail
          (try (go_big_region; go_wp2_with fail))
          (try simp only [Exit.inBlock, Exit.then])
          refine bodyRet2 _ _ rfl rfl (ResIs.row Tryz.underlying42 rfl (by kernel_rfl) rfl (by simp [go_sem]; exact ⟨rfl, rfl, rfl⟩)) (ResIs.row Tryz.underlying42 rfl (by kernel_rfl) rfl (by simp [go_sem]; exact ⟨rfl, rfl, rfl⟩)) ?_
          refine pure_of ?_ (by repeat (first | with_reducible exact Chg.refl _ _ | with_reducible exact chg0 | with_reducible refine Chg.drewN ?_ _ | with_reducible refine Chg.drew ?_ | with_reducible refine Chg.alloc ?_ _ | with_reducible refine Chg.setCell ?_ _ _ (by first | (simp; done) | omega | (simp; omega)) | with_reducible refine Chg.setBlock ?_ _ _ (by first | (simp; done) | omega | (simp; omega)) | exact Chg.refl _ _))
          rw [HSP.out, if_pos (by first | omega | (simp; done) | (simp; omega))]
          first | rfl | (simp_all [Bundle.none]; done)
end Go.Proofs.YtchlioikkhnidaaGreat
