/-
  The statements on the cache: which acts are right.
-/
import Derived.Test.YtocnhmakgbdbfaaCaL
import Derived.Deep.LoopGhost
import Derived.Deep.CutBlock
namespace Go.Proofs.Ytocnhmakgbdbfaa
open Go.RowKit Go.Sort Go.ChangeShapes Go.WideShapes Go.ChangeAt
open Go.ChangeMaps (setBlock)
set_option linter.unusedVariables false
set_option linter.unusedSimpArgs false

theorem act09At {l : List Act09} {w w' : World} {b off k : Nat} (h : RowsAt w b off 13 (l.map Act09.cells)) (hb : Below w.heap.size w w') (hk : k < l.length) : w'.rangeAt b (off + k * 13) (l[k]).cells :=
  rangeAt_below (h k _ (by simp [hk])) hb
def Act09.fit (a : Act09) : Prop := a.tokens.Good ∧ a.tokens.count ≤ 1048576

set_option maxHeartbeats 4000000 in
set_option maxRecDepth 20000 in
theorem right_calls (l : List Act09) (v : Value) (w : World) (hsl : SliceIs w 13 v (l.map Act09.cells)) :
    Calls Try.prog 25 #[v] w fun e w' => ∃ r, e = .returned (.bool r) ∧ (r = true → l.length ≤ 200 ∧ ∀ a ∈ l, a.fit) ∧ Below w.heap.size w w' := by
  obtain ⟨A, cap, rfl, h1, h2, h3⟩ := hsl
  simp only [List.length_map] at h1 h2 h3 ⊢
  have H3 := Lib.hid h3
  clear h3
  go_enter Try.func25, Try.ntmps25
  by_cases h200 : (200 : Int) < (l.length : Int)
  · have h200' : decide ((200 : Int) < (l.length : Int)) = true := by simpa using h200
    go_wp2_with fail
    go_ret
    exact ⟨false, rfl, (fun h => by cases h), Chg.below (by repeat (first | with_reducible exact Chg.refl _ _ | with_reducible exact chg0 | with_reducible refine Chg.drewN ?_ _ | with_reducible refine Chg.drew ?_ | with_reducible refine Chg.alloc ?_ _ | with_reducible refine Chg.setCell ?_ _ _ (by first | (simp; done) | omega | (simp; omega)) | with_reducible refine Chg.setBlock ?_ _ _ (by first | (simp; done) | omega | (simp; omega)) | exact Chg.refl _ _))⟩
  have h200' : decide ((200 : Int) < (l.length : Int)) = false := by simpa using h200
  go_wp2_with fail
  go_loopg [10] l.length (fun g i wx => ∃ (wr : World) (k : Nat), wx = wr ∧ k ≤ l.length ∧ g = l.length - k ∧ i = .int .i64 k ∧ Below w.heap.size w wr ∧ ∀ a ∈ l.take k, a.fit)
  case atStart => exact ⟨_, 0, rfl, Nat.zero_le _, rfl, rfl, Chg.below (by repeat (first | with_reducible exact Chg.refl _ _ | with_reducible exact chg0 | with_reducible refine Chg.drewN ?_ _ | with_reducible refine Chg.drew ?_ | with_reducible refine Chg.alloc ?_ _ | with_reducible refine Chg.setCell ?_ _ _ (by first | (simp; done) | omega | (simp; omega)) | with_reducible refine Chg.setBlock ?_ _ _ (by first | (simp; done) | omega | (simp; omega)) | exact Chg.refl _ _)), by simp⟩
  case round =>
    obtain ⟨wr, k, rfl, hk, rfl, rfl, hb, hfit⟩ := hrel
    have HB := Lib.hid hb
    have HF := Lib.hid hfit
    have sr := hb.size
    clear hb hfit
    by_cases hlt : k < l.length
    · obtain ⟨q, off, rfl, hrows⟩ := H3.out (by omega)
      have hrow := act09At hrows HB.out hlt
      have htk : l.take (k + 1) = l.take k ++ [l[k]] := List.take_succ_eq_append_getElem hlt
      obtain ⟨d, hd⟩ : ∃ d, d = l[k] := ⟨_, rfl⟩
      rw [← hd] at hrow htk
      have HTK := Lib.hid htk
      clear hd hrows htk
      obtain ⟨c0, c1, c2, c3, c4, c5, c6, c7, c8, c9, c10, c11, c12⟩ := Act09.range hrow
      by_cases hbig : (1048576 : Int) < d.tokens.count
      · have hbig' : decide ((1048576 : Int) < d.tokens.count) = true := by simpa using hbig
        go_wp2_with fail
        go_ret
        exact ⟨false, rfl, (fun h => by cases h), below_trans HB.out (Chg.below (by repeat (first | with_reducible exact Chg.refl _ _ | with_reducible exact chg0 | with_reducible refine Chg.drewN ?_ _ | with_reducible refine Chg.drew ?_ | with_reducible refine Chg.alloc ?_ _ | with_reducible refine Chg.setCell ?_ _ _ (by first | (simp; done) | omega | (simp; omega)) | with_reducible refine Chg.setBlock ?_ _ _ (by first | (simp; done) | omega | (simp; omega)) | exact Chg.refl _ _)))⟩
      · have hbig' : decide ((1048576 : Int) < d.tokens.count) = false := by simpa using hbig
        go_wp2_with fail
        refine (RefRight_calls d.tokens 1048576 _).mono ?_
        rintro e w2 ⟨rfl, hb2⟩
        have hb3 : Below wr.heap.size wr w2 := below_trans (Chg.below (by repeat (first | with_reducible exact Chg.refl _ _ | with_reducible exact chg0 | with_reducible refine Chg.drewN ?_ _ | with_reducible refine Chg.drew ?_ | with_reducible refine Chg.alloc ?_ _ | with_reducible refine Chg.setCell ?_ _ _ (by first | (simp; done) | omega | (simp; omega)) | with_reducible refine Chg.setBlock ?_ _ _ (by first | (simp; done) | omega | (simp; omega)) | exact Chg.refl _ _))) hb2
        have hchk := @Bundle.check_zero d.tokens 1048576
        obtain ⟨r, hr⟩ : ∃ r, r = decide (d.tokens.check 1048576 = 0) := ⟨_, rfl⟩
        rw [← hr]
        have HR := Lib.hid hr
        have HC := Lib.hid hchk
        clear hr hchk hb2
        cases r
        · go_wp2_with fail
          go_ret
          exact ⟨false, rfl, (fun h => by cases h), below_trans HB.out hb3⟩
        · have hfd : d.fit := HC.out.1 (of_decide_eq_true HR.out.symm)
          have HFD := Lib.hid hfd
          clear hfd
          go_wp2_with fail
          go_roundg (l.length - (k + 1))
          case rel =>
            refine ⟨_, k + 1, rfl, by omega, rfl, by go_num, below_trans HB.out hb3, fun a ha => ?_⟩
            rw [HTK.out] at ha
            rcases List.mem_append.1 ha with ha | ha
            · exact HF.out a ha
            · simp at ha; rw [ha]; exact HFD.out
          case measure => omega
    · go_wp2_with fail
      go_ret
      refine ⟨true, rfl, fun _ => ⟨by omega, ?_⟩, HB.out⟩
      have := HF.out
      rw [List.take_of_length_le (by omega)] at this
      exact this
end Go.Proofs.Ytocnhmakgbdbfaa
