/-
  Tokens: what Do, Split and Join come to, the program's and the document's.
-/
import Derived.Test.YtchlioikkhnidaaGreatMF
import Derived.Test.YtchlioikkhnidaaGreatME
import Derived.BigRegion
set_option linter.unusedVariables false
set_option linter.unusedSimpArgs false
namespace Go.Proofs.YtchlioikkhnidaaGreat
open Go.RowKit Go.Sort Go.ChangeShapes Go.WideShapes Go.ChangeAt
open Go.ChangeMaps (setBlock)
set_option linter.unusedVariables false
set_option linter.unusedSimpArgs false

theorem tup2 {a a' : Int} {b b' : Bool} (h1 : a = a') (h2 : b = b') : Value.tuple #[.int .i64 a, .bool b] = Value.tuple #[.int .i64 a', .bool b'] := by rw [h1, h2]

set_option maxHeartbeats 1000000 in
theorem RefGiven_calls (h : Bundle) (count : Int) (owner : Bool) (w : World) (g : h.Good) (hb : h.count ≤ 1000000000000) : Calls Tryz.prog 143 #[h.val, .int .i64 count, .bool owner] w (Pure w (.tuple #[.int .i64 (h.given count owner).1, .bool (h.given count owner).2])) := by
  have hpos := g.pos
  obtain ⟨hc, ho, hh, hd⟩ := h
  simp only at hpos hb
  simp only [Bundle.val, Bundle.cells]
  go_enter Tryz.func143, Tryz.ntmps143
  cases ho <;> cases owner
  all_goals
    go_wp2_with fail
    all_goals go_ret2
    all_goals refine pure_of (tup2 ?_ ?_) (by repeat (first | with_reducible exact Chg.refl _ _ | with_reducible exact chg0 | with_reducible refine Chg.drewN ?_ _ | with_reducible refine Chg.drew ?_ | with_reducible refine Chg.alloc ?_ _ | with_reducible refine Chg.setCell ?_ _ _ (by first | (simp; done) | omega | (simp; omega)) | with_reducible refine Chg.setBlock ?_ _ _ (by first | (simp; done) | omega | (simp; omega)) | exact Chg.refl _ _))
    all_goals simp only [Bundle.given]
    all_goals (try rw [IntKind.wrap_i64])
    all_goals (try simp only [beq_iff_eq, beq_eq_false_iff_ne, ne_eq] at *)
    all_goals (repeat' split) <;> simp_all <;> omega

set_option maxHeartbeats 8000000 in
set_option maxRecDepth 20000 in
theorem RefSplit_calls (h : Bundle) (count : Int) (owner data : Bool) (w : World) (g : h.Good) (hb : h.count ≤ 1000000000000) :
    Calls Tryz.prog 115 #[h.val, .int .i64 count, .bool owner, .bool data] w (Pure w (.tuple #[(h.split count owner data).1.val, (h.split count owner data).2.val])) := by
  have hpos := g.pos
  have hle := h.given_le g count owner
  have hG := RefGiven_calls h count owner
  have hsp : h.split count owner data = if (h.given count owner).1 ≤ 0 then (Bundle.none, h) else (Bundle.valued (h.given count owner).1 (h.given count owner).2 (h.has && (data || (h.given count owner).2)) h.data, if (h.given count owner).1 = h.count then Bundle.none else ⟨h.count - (h.given count owner).1, h.owner && !(h.given count owner).2, h.has, h.data⟩) := rfl
  obtain ⟨n, hn⟩ : ∃ n, n = (h.given count owner).1 := ⟨_, rfl⟩
  obtain ⟨o, ho⟩ : ∃ o, o = (h.given count owner).2 := ⟨_, rfl⟩
  rw [← hn, ← ho] at hsp hle
  simp only [← hn, ← ho] at hG
  have HSP := Lib.hid hsp
  have HG := Lib.hid hG
  have HLE := Lib.hid hle
  obtain ⟨n1, n2, _, _⟩ := hle
  clear hsp hG hn ho
  obtain ⟨hc, ho, hh, hd⟩ := h
  simp only at hpos hb n1 n2
  have e1 : IntKind.i64.wrap (hc - n) = hc - n := by rw [IntKind.wrap_i64]; omega
  simp only [Bundle.val, Bundle.cells]
  go_enter Tryz.func115, Tryz.ntmps115
  go_wp2_with fail
  refine (HG.out _ g hb).mono ?_
  rintro e w' ⟨rfl, hb'⟩
  have o0 : ob w' w.heap.size = some (.cells #[.int .i64 hc, .bool ho, .bool hh, .int .i64 hd] 42 (0, 0)) := (Chg.of_below (S := fun _ => False) hb').ob (by simp [go_sem]) (fun h => h)
  have o1 : ob w' (w.heap.size + 1) = some (.cells #[.int .i64 0, .bool false, .bool false, .int .i64 0] 42 (0, 0)) := (Chg.of_below (S := fun _ => False) hb').ob (by simp [go_sem]) (fun h => h)
  have o2 : ob w' (w.heap.size + 1 + 1) = some (.cells #[.int .i64 0, .bool false, .bool false, .int .i64 0] 42 (0, 0)) := (Chg.of_below (S := fun _ => False) hb').ob (by simp [go_sem]) (fun h => h)
  obtain ⟨a0, a1, a2, a3, af⟩ := ob_cells4 o0
  obtain ⟨b0, b1, b2, b3, bf⟩ := ob_cells4 o1
  obtain ⟨d0, d1, d2, d3, df⟩ := ob_cells4 o2
  have l2 := ob_lt o2
  have l1 := ob_lt o1
  have chg0 : Chg (fun _ => False) w w' := Chg.of_below (below_trans (Chg.below (by repeat (first | with_reducible exact Chg.refl _ _ | with_reducible exact chg0 | with_reducible refine Chg.drewN ?_ _ | with_reducible refine Chg.drew ?_ | with_reducible refine Chg.alloc ?_ _ | with_reducible refine Chg.setCell ?_ _ _ (by first | (simp; done) | omega | (simp; omega)) | with_reducible refine Chg.setBlock ?_ _ _ (by first | (simp; done) | omega | (simp; omega)) | exact Chg.refl _ _))) hb')
  clear hb'
  have l0 := ob_lt o0
  by_cases q1 : n ≤ 0
  · have Q1 := Lib.hid q1
    have q1' : decide (n ≤ 0) = true := by simpa using q1
    have q2' : (hc == 0 || decide (n ≤ 0)) = true := by rw [q1']; simp
    clear q1
    go_wp2_with fail
    all_goals go_region
    all_goals (go_wp2_with fail)
    all_goals (try simp only [Exit.inBlock, Exit.then])
    all_goals refine bodyRet2 _ _ rfl rfl (ResIs.row Tryz.underlying42 rfl (by kernel_rfl) rfl (by simp [go_sem, o0, o1, o2]; exact ⟨rfl, rfl, rfl⟩)) (ResIs.row Tryz.underlying42 rfl (by kernel_rfl) rfl (by simp [go_sem, o0, o1, o2]; exact ⟨rfl, rfl, rfl⟩)) ?_
    all_goals refine pure_of ?_ (by repeat (first | with_reducible exact Chg.refl _ _ | with_reducible exact chg0 | with_reducible refine Chg.drewN ?_ _ | with_reducible refine Chg.drew ?_ | with_reducible refine Chg.alloc ?_ _ | with_reducible refine Chg.setCell ?_ _ _ (by first | (simp; done) | omega | (simp; omega)) | with_reducible refine Chg.setBlock ?_ _ _ (by first | (simp; done) | omega | (simp; omega)) | exact Chg.refl _ _))
    all_goals rw [HSP.out, if_pos Q1.out]
    all_goals (first | rfl | simp_all [Bundle.none])
  · have q1' : decide (n ≤ 0) = false := by simpa using q1
    have q2' : (hc == 0) = false := by simp; omega
    have Q1 := Lib.hid q1
    clear q1
    by_cases q3 : n = hc
    · have q3' : (n == hc) = true := by simpa using q3
      have Q3 := Lib.hid q3
      clear q3
      cases o <;> cases hh <;> cases data
      all_goals
        go_wp2_with fail
        (try simp only [Exit.inBlock, Exit.then])
        refine bodyRet2 _ _ rfl rfl (ResIs.row Tryz.underlying42 rfl (by kernel_rfl) rfl (by simp [go_sem, o1, o2, l1, l2]; exact ⟨rfl, rfl, rfl⟩)) (ResIs.row Tryz.underlying42 rfl (by kernel_rfl) rfl (by simp [go_sem, o1, o2, l1, l2]; exact ⟨rfl, rfl, rfl⟩)) ?_
        refine pure_of ?_ (by repeat (first | with_reducible exact Chg.refl _ _ | with_reducible exact chg0 | with_reducible refine Chg.drewN ?_ _ | with_reducible refine Chg.drew ?_ | with_reducible refine Chg.alloc ?_ _ | with_reducible refine Chg.setCell ?_ _ _ (by first | (simp; done) | omega | (simp; omega)) | with_reducible refine Chg.setBlock ?_ _ _ (by first | (simp; done) | omega | (simp; omega)) | exact Chg.refl _ _))
        rw [HSP.out, if_neg (show ¬ n ≤ 0 from by have := Q1.out; omega), if_pos Q3.out]
        rfl
    · have q3' : (n == hc) = false := by simpa using q3
      have Q3 := Lib.hid q3
      clear q3
      cases o <;> cases hh <;> cases data <;> cases ho
      all_goals first | exact absurd (HLE.out.2.2.2 rfl).1 (by decide) | skip
      all_goals
        go_wp2_with fail
        go_big_region
        (try simp only [Exit.inBlock, Exit.then])
        go_wp2_with fail
        (try simp only [Exit.inBlock, Exit.then])
        refine bodyRet2 _ _ rfl rfl (ResIs.row Tryz.underlying42 rfl (by kernel_rfl) rfl (by simp [go_sem, o1, o2, l1, l2]; exact ⟨rfl, rfl, rfl⟩)) (ResIs.row Tryz.underlying42 rfl (by kernel_rfl) rfl (by simp [go_sem, o1, o2, l1, l2]; exact ⟨rfl, rfl, rfl⟩)) ?_
        refine pure_of ?_ (by repeat (first | with_reducible exact Chg.refl _ _ | with_reducible exact chg0 | with_reducible refine Chg.drewN ?_ _ | with_reducible refine Chg.drew ?_ | with_reducible refine Chg.alloc ?_ _ | with_reducible refine Chg.setCell ?_ _ _ (by first | (simp; done) | omega | (simp; omega)) | with_reducible refine Chg.setBlock ?_ _ _ (by first | (simp; done) | omega | (simp; omega)) | exact Chg.refl _ _))
        rw [HSP.out, if_neg (show ¬ n ≤ 0 from by have := Q1.out; omega), if_neg Q3.out]
        rfl
end Go.Proofs.YtchlioikkhnidaaGreat
