/-
  LinesCopies: a copy has the lines, and their order, and knows nothing of what becomes of those; nor those of it. No condition.
-/
import Derived.Test.YtocnhmakgbdbfaaLnL
import Derived.Test.YtocnhmakgbdbfaaLnP
import Derived.Deep.LoopGhost
import Derived.Deep.CutBlock
namespace Go.Proofs.Ytocnhmakgbdbfaa
open Go.RowKit Go.Sort Go.ChangeShapes Go.WideShapes Go.ChangeAt
open Go.ChangeMaps (setBlock)
set_option linter.unusedVariables false
set_option linter.unusedSimpArgs false

set_option maxHeartbeats 4000000 in
set_option maxRecDepth 20000 in
theorem linesCopies_walk (sizes : Pair) (hs : sizes.ok) (l : List Act08) (v : Value) (w : World) (hsl : SliceIs w 2 v (l.map Act08.cells)) (hok : ∀ d ∈ l, d.ok) (ask : Pair) (ha : ask.ok) :
    Calls Try.prog 5 #[sizes.val, v, ask.val] w fun e w' => e = .returned (.bool true) ∧ Below w.heap.size w w' := by
  obtain ⟨A, cap, rfl, h1, h2, h3⟩ := hsl
  simp only [List.length_map] at h1 h2 h3 ⊢
  have H3 := Lib.hid h3
  clear h3 hok ha hs
  obtain ⟨s0, s1⟩ := sizes
  obtain ⟨a0, a1⟩ := ask
  simp only [Pair.val, Pair.cells]
  go_enter Try.func5, Try.ntmps5
  go_wp2_with fail
  refine (lnAwake_calls _).mono ?_
  rintro e w1 ⟨rfl, hb1'⟩
  have hb1 : Below w.heap.size w w1 := below_trans (Chg.below (by repeat (first | with_reducible exact Chg.refl _ _ | with_reducible exact chg0 | with_reducible refine Chg.drewN ?_ _ | with_reducible refine Chg.drew ?_ | with_reducible refine Chg.alloc ?_ _ | with_reducible refine Chg.setCell ?_ _ _ (by first | (simp; done) | omega | (simp; omega)) | with_reducible refine Chg.setBlock ?_ _ _ (by first | (simp; done) | omega | (simp; omega)) | exact Chg.refl _ _))) hb1'
  have sz1 := hb1'.size
  simp [go_sem] at sz1
  have ask0 : w1.cell? ⟨w.heap.size + 1, 0, none⟩ = some (.int .i64 a0) := by rw [hb1'.cell (by simp <;> omega)]; simp [go_sem]
  have ask1 : w1.cell? ⟨w.heap.size + 1, 1, none⟩ = some (.int .i64 a1) := by rw [hb1'.cell (by simp <;> omega)]; simp [go_sem]
  have siz0 : w1.cell? ⟨w.heap.size, 0, none⟩ = some (.int .i64 s0) := by rw [hb1'.cell (by simp <;> omega)]; simp [go_sem]
  have siz1 : w1.cell? ⟨w.heap.size, 1, none⟩ = some (.int .i64 s1) := by rw [hb1'.cell (by simp <;> omega)]; simp [go_sem]
  clear hb1'
  by_cases h200 : (200 : Int) < (l.length : Int)
  · have h200' : decide ((200 : Int) < (l.length : Int)) = true := by simpa using h200
    go_wp2_with fail
    refine (lnAwake_calls _).mono ?_
    rintro e w2 ⟨rfl, hb2⟩
    go_wp2_with fail
    go_ret
    exact ⟨rfl, below_trans hb1 hb2⟩
  have h200' : decide ((200 : Int) < (l.length : Int)) = false := by simpa using h200
  go_wp2_with fail
  have AA := Lib.hid (And.intro ask0 ask1)
  have B1 := Lib.hid hb1
  refine (LinesNew_calls s0 s1 _).mono ?_
  rintro e w2 ⟨p, F1, rfl, hp, hF1, hb2⟩
  have T1 : At0 w1 w2 p (Lines.new s0 s1) F1 := ⟨hp, hF1, below_trans (Chg.below (by repeat (first | with_reducible exact Chg.refl _ _ | with_reducible exact chg0 | with_reducible refine Chg.drewN ?_ _ | with_reducible refine Chg.drew ?_ | with_reducible refine Chg.alloc ?_ _ | with_reducible refine Chg.setCell ?_ _ _ (by first | (simp; done) | omega | (simp; omega)) | with_reducible refine Chg.setBlock ?_ _ _ (by first | (simp; done) | omega | (simp; omega)) | exact Chg.refl _ _))) hb2⟩
  have HT1 := Lib.hid T1
  clear T1 hp hF1 hb2 ask0 ask1 siz0 siz1 hb1
  go_wp2_with fail
  go_loopg [35] l.length (fun g i wx => ∃ (wr : World) (k : Nat) (s : Lines) (F : Nat → Prop), wx = wr ∧ k ≤ l.length ∧ g = l.length - k ∧ i = .int .i64 k ∧ At0 w1 wr p s F ∧ ∀ b ∈ s.all, ∃ a ∈ l.take k, a.block = b)
  case atStart => exact ⟨_, 0, _, F1, rfl, Nat.zero_le _, rfl, rfl, HT1.out, fun b hb => by simp [Lines.new] at hb⟩
  case round =>
    obtain ⟨wr, k, s, F, rfl, hk, rfl, rfl, hT, hin⟩ := hrel
    have HT := Lib.hid hT
    have sr := hT.below.size
    have HF0 := Lib.hid (fun j (hj : F j) => hT.here.lt hj)
    have Hin := Lib.hid hin
    clear hT HT1 hin
    by_cases hlt : k < l.length
    · obtain ⟨q, off, rfl, hrows⟩ := H3.out (by omega)
      have hrow := act08At hrows (below_trans B1.out HT.out.below) hlt
      have htk : l.take (k + 1) = l.take k ++ [l[k]] := List.take_succ_eq_append_getElem hlt
      obtain ⟨⟨kd, b⟩, hd⟩ : ∃ d, d = l[k] := ⟨_, rfl⟩
      rw [← hd] at hrow htk
      have Htk := Lib.hid htk
      obtain ⟨c0, c1⟩ := Act08.range hrow
      clear hd hrow hrows htk
      have hadd : ∀ x ∈ (s.add b).all, ∃ a ∈ l.take (k + 1), a.block = x := fun x hx => by
        rw [Htk.out]
        have : x ∈ s.all ∨ x = b := by
          unfold Lines.add at hx
          split at hx
          · rcases List.mem_append.1 hx with h | h
            · exact .inl h
            · exact .inr (by simpa using h)
          · exact .inl hx
        rcases this with h | h
        · obtain ⟨a, ha, e⟩ := Hin.out x h
          exact ⟨a, List.mem_append_left _ ha, e⟩
        · exact ⟨⟨kd, b⟩, List.mem_append_right _ (by simp), h.symm⟩
      have Hadd := Lib.hid hadd
      clear hadd
      go_wp2_with fail
      refine (Add_calls b (HT.out.same (Chg.below (by repeat (first | with_reducible exact Chg.refl _ _ | with_reducible exact chg0 | with_reducible refine Chg.drewN ?_ _ | with_reducible refine Chg.drew ?_ | with_reducible refine Chg.alloc ?_ _ | with_reducible refine Chg.setCell ?_ _ _ (by first | (simp; done) | omega | (simp; omega)) | with_reducible refine Chg.setBlock ?_ _ _ (by first | (simp; done) | omega | (simp; omega)) | exact Chg.refl _ _)))).here).mono ?_
      rintro e w3 ⟨rfl, F3, hh3, mm3⟩
      have k3 := mm3.chg.cell (a := ⟨wr.heap.size, 0, none⟩) (v := .int .i64 kd) (by simp [go_sem]) (fun hf => absurd (HF0.out _ hf) (Nat.lt_irrefl _))
      have b3 := mm3.chg.cell (a := ⟨wr.heap.size, 1, none⟩) (v := .int .i64 b) (by simp [go_sem]) (fun hf => absurd (HF0.out _ hf) (Nat.lt_irrefl _))
      replace HT := Lib.hid ((HT.out.same (Chg.below (by repeat (first | with_reducible exact Chg.refl _ _ | with_reducible exact chg0 | with_reducible refine Chg.drewN ?_ _ | with_reducible refine Chg.drew ?_ | with_reducible refine Chg.alloc ?_ _ | with_reducible refine Chg.setCell ?_ _ _ (by first | (simp; done) | omega | (simp; omega)) | with_reducible refine Chg.setBlock ?_ _ _ (by first | (simp; done) | omega | (simp; omega)) | exact Chg.refl _ _)))).moves hh3 mm3)
      clear hh3 mm3 c0 c1
      generalize s.can b = r1
      by_cases q2 : kd = 2
      · subst q2
        go_wp2_with fail
        refine (Use_calls b HT.out.here).mono ?_
        rintro e w4 ⟨rfl, F4, hh4, mm4⟩
        replace HT := Lib.hid (HT.out.moves hh4 mm4)
        generalize (s.add b).has b = r2
        go_wp2_with fail
        go_roundg (l.length - (k + 1))
        case rel =>
          refine ⟨_, k + 1, _, F4, rfl, by omega, rfl, by go_num, HT.out, fun x hx => Hadd.out x ?_⟩
          unfold Lines.use at hx
          split at hx
          · rename_i hb
            rcases List.mem_append.1 hx with h | h
            · exact List.mem_of_mem_erase h
            · have : x = b := by simpa using h
              rw [this]; exact ((s.add b).has_iff b).1 hb
          · exact hx
        case measure => omega
      · go_wp2_with fail
        go_roundg (l.length - (k + 1))
        case rel => exact ⟨_, k + 1, _, F3, rfl, by omega, rfl, by go_num, HT.out, Hadd.out⟩
        case measure => omega
    · have ask0 : wr.cell? ⟨w.heap.size + 1, 0, none⟩ = some (.int .i64 a0) := by rw [HT.out.below.cell (by simp; omega)]; exact AA.out.1
      have ask1 : wr.cell? ⟨w.heap.size + 1, 1, none⟩ = some (.int .i64 a1) := by rw [HT.out.below.cell (by simp; omega)]; exact AA.out.2
      have hin0 := Hin.out
      rw [List.take_of_length_le (by omega)] at hin0
      have Hin0 := Lib.hid hin0
      obtain ⟨x1, e1⟩ : ∃ x, x = (s.victim a0 a1).1 := ⟨_, rfl⟩
      obtain ⟨x2, e2⟩ : ∃ x, x = (s.victim a0 a1).2 := ⟨_, rfl⟩
      have E1 := Lib.hid e1
      have E2 := Lib.hid e2
      clear e1 e2 hin0 Hin
      go_wp2_with fail
      refine (List_calls (HT.out.same (Chg.below (by repeat (first | with_reducible exact Chg.refl _ _ | with_reducible exact chg0 | with_reducible refine Chg.drewN ?_ _ | with_reducible refine Chg.drew ?_ | with_reducible refine Chg.alloc ?_ _ | with_reducible refine Chg.setCell ?_ _ _ (by first | (simp; done) | omega | (simp; omega)) | with_reducible refine Chg.setBlock ?_ _ _ (by first | (simp; done) | omega | (simp; omega)) | exact Chg.refl _ _)))).here).mono ?_
      rintro e w3 ⟨u, rfl, hu, hul, hb3⟩
      have HUD := Lib.hid (show ∀ j, F j → u.ownBlock = some j → False from fun j h1 h2 => by have h3 := HT.out.here.lt h1; have h4 := hul j h2; first | omega | (simp [go_sem] at h4; omega))
      replace HT := Lib.hid ((HT.out.same (Chg.below (by repeat (first | with_reducible exact Chg.refl _ _ | with_reducible exact chg0 | with_reducible refine Chg.drewN ?_ _ | with_reducible refine Chg.drew ?_ | with_reducible refine Chg.alloc ?_ _ | with_reducible refine Chg.setCell ?_ _ _ (by first | (simp; done) | omega | (simp; omega)) | with_reducible refine Chg.setBlock ?_ _ _ (by first | (simp; done) | omega | (simp; omega)) | exact Chg.refl _ _)))).same hb3)
      have HU := Lib.hid hu
      have k0 : w3.cell? ⟨w.heap.size + 1, 0, none⟩ = some (.int .i64 a0) := by rw [HT.out.below.cell (by simp; omega)]; exact AA.out.1
      have k1 : w3.cell? ⟨w.heap.size + 1, 1, none⟩ = some (.int .i64 a1) := by rw [HT.out.below.cell (by simp; omega)]; exact AA.out.2
      clear hu hul hb3 ask0 ask1 HF0
      go_wp2_with fail
      refine (Victim_calls a0 a1 (HT.out.same (Chg.below (by repeat (first | with_reducible exact Chg.refl _ _ | with_reducible exact chg0 | with_reducible refine Chg.drewN ?_ _ | with_reducible refine Chg.drew ?_ | with_reducible refine Chg.alloc ?_ _ | with_reducible refine Chg.setCell ?_ _ _ (by first | (simp; done) | omega | (simp; omega)) | with_reducible refine Chg.setBlock ?_ _ _ (by first | (simp; done) | omega | (simp; omega)) | exact Chg.refl _ _)))).here).mono ?_
      rintro e w4 ⟨rfl, n4, rfl⟩
      rw [← E1.out, ← E2.out]
      go_wp2_with fail
      refine (Copy_calls (HT.out.same (Chg.below (by repeat (first | with_reducible exact Chg.refl _ _ | with_reducible exact chg0 | with_reducible refine Chg.drewN ?_ _ | with_reducible refine Chg.drew ?_ | with_reducible refine Chg.alloc ?_ _ | with_reducible refine Chg.setCell ?_ _ _ (by first | (simp; done) | omega | (simp; omega)) | with_reducible refine Chg.setBlock ?_ _ _ (by first | (simp; done) | omega | (simp; omega)) | exact Chg.refl _ _)))).here).mono ?_
      rintro e w5 ⟨p', F', rfl, hc, hcF, hb5⟩
      replace HU := Lib.hid (HU.out.chg (S := fun _ => False) (Chg.of_below (below_trans (Chg.below (by repeat (first | with_reducible exact Chg.refl _ _ | with_reducible exact chg0 | with_reducible refine Chg.drewN ?_ _ | with_reducible refine Chg.drew ?_ | with_reducible refine Chg.alloc ?_ _ | with_reducible refine Chg.setCell ?_ _ _ (by first | (simp; done) | omega | (simp; omega)) | with_reducible refine Chg.setBlock ?_ _ _ (by first | (simp; done) | omega | (simp; omega)) | exact Chg.refl _ _))) hb5)) (fun _ _ h => h))
      have hC : At0 w1 w5 p' s F' := ⟨hc, fun j hj => by have h1 := hcF j hj; have h2 := HT.out.below.size; simp [go_sem] at h1; omega, below_trans (HT.out.same (Chg.below (by repeat (first | with_reducible exact Chg.refl _ _ | with_reducible exact chg0 | with_reducible refine Chg.drewN ?_ _ | with_reducible refine Chg.drew ?_ | with_reducible refine Chg.alloc ?_ _ | with_reducible refine Chg.setCell ?_ _ _ (by first | (simp; done) | omega | (simp; omega)) | with_reducible refine Chg.setBlock ?_ _ _ (by first | (simp; done) | omega | (simp; omega)) | exact Chg.refl _ _)))).below hb5⟩
      have hD : ∀ j, F j → F' j → False := fun j h1 h2 => by have h3 := hcF j h2; have h4 := HT.out.here.lt h1; simp [go_sem] at h3; omega
      have HC := Lib.hid hC
      have HD := Lib.hid hD
      replace HT := Lib.hid ((HT.out.same (Chg.below (by repeat (first | with_reducible exact Chg.refl _ _ | with_reducible exact chg0 | with_reducible refine Chg.drewN ?_ _ | with_reducible refine Chg.drew ?_ | with_reducible refine Chg.alloc ?_ _ | with_reducible refine Chg.setCell ?_ _ _ (by first | (simp; done) | omega | (simp; omega)) | with_reducible refine Chg.setBlock ?_ _ _ (by first | (simp; done) | omega | (simp; omega)) | exact Chg.refl _ _)))).same hb5)
      clear hc hcF hb5 hC hD k0 k1
      go_wp2_with fail
      have Size5 := Lib.hid HT.out.below.size
      go_loopg [68] l.length (fun g i wx => ∃ (wr : World) (k : Nat) (t : Lines) (F2 : Nat → Prop), wx = wr ∧ k ≤ l.length ∧ g = l.length - k ∧ i = .int .i64 k ∧ At0 w1 wr p t F2 ∧ At0 w1 wr p' s F' ∧ (∀ j, F2 j → F' j → False) ∧ OwnSl wr 3 1 u (ints s.list) ∧ (∀ j, F2 j → u.ownBlock = some j → False) ∧ ∀ b ∈ t.all, ∃ a ∈ l.drop k, a.block = b)
      case atStart => exact ⟨_, 0, _, F, rfl, Nat.zero_le _, rfl, rfl, HT.out, HC.out, HD.out, HU.out, HUD.out, Hin0.out⟩
      case round =>
        obtain ⟨wr, k, t, F2, rfl, hk, rfl, rfl, hT, hC, hD, hU, hUD, hin⟩ := hrel
        replace HT := Lib.hid hT
        replace HC := Lib.hid hC
        replace HD := Lib.hid hD
        replace HU := Lib.hid hU
        replace HUD := Lib.hid hUD
        have Hin := Lib.hid hin
        have sr := hT.below.size
        clear hT hC hD hU hUD hin
        by_cases hlt : k < l.length
        · obtain ⟨q, off, rfl, hrows⟩ := H3.out (by omega)
          have hrow := act08At hrows (below_trans B1.out HT.out.below) hlt
          have hdk : l.drop k = l[k] :: l.drop (k + 1) := List.drop_eq_getElem_cons hlt
          obtain ⟨⟨kd, b⟩, hd⟩ : ∃ d, d = l[k] := ⟨_, rfl⟩
          rw [← hd] at hrow hdk
          obtain ⟨c0, c1⟩ := Act08.range hrow
          have hrem : ∀ x ∈ (t.rem b).all, ∃ a ∈ l.drop (k + 1), a.block = x := fun x hx => by
            have hx' : x ∈ t.all.erase b := hx
            rw [HT.out.here.ok.nodup.erase_eq_filter] at hx'
            obtain ⟨h1, h2⟩ := List.mem_filter.1 hx'
            obtain ⟨a, ha, e⟩ := Hin.out x h1
            rw [hdk] at ha
            rcases List.mem_cons.1 ha with h | h
            · rw [h] at e
              simp only at e
              rw [e] at h2
              simp at h2
            · exact ⟨a, h, e⟩
          have Hrem := Lib.hid hrem
          clear hd hrow hrows hdk hrem
          go_wp2_with fail
          refine (Remove_calls b (HT.out.same (Chg.below (by repeat (first | with_reducible exact Chg.refl _ _ | with_reducible exact chg0 | with_reducible refine Chg.drewN ?_ _ | with_reducible refine Chg.drew ?_ | with_reducible refine Chg.alloc ?_ _ | with_reducible refine Chg.setCell ?_ _ _ (by first | (simp; done) | omega | (simp; omega)) | with_reducible refine Chg.setBlock ?_ _ _ (by first | (simp; done) | omega | (simp; omega)) | exact Chg.refl _ _)))).here).mono ?_
          rintro e w7 ⟨rfl, F7, hh7, mm7⟩
          have hU7 : OwnSl w7 3 1 u (ints s.list) := (HU.out.chg (S := fun _ => False) (by repeat (first | with_reducible exact Chg.refl _ _ | with_reducible exact chg0 | with_reducible refine Chg.drewN ?_ _ | with_reducible refine Chg.drew ?_ | with_reducible refine Chg.alloc ?_ _ | with_reducible refine Chg.setCell ?_ _ _ (by first | (simp; done) | omega | (simp; omega)) | with_reducible refine Chg.setBlock ?_ _ _ (by first | (simp; done) | omega | (simp; omega)) | exact Chg.refl _ _)) (fun _ _ h => h)).chg mm7.chg fun j hj hf => HUD.out j hf hj
          generalize t.has b = r1
          go_wp2_with fail
          go_roundg (l.length - (k + 1))
          case rel =>
            refine ⟨_, k + 1, _, F7, rfl, by omega, rfl, by go_num, (HT.out.same (Chg.below (by repeat (first | with_reducible exact Chg.refl _ _ | with_reducible exact chg0 | with_reducible refine Chg.drewN ?_ _ | with_reducible refine Chg.drew ?_ | with_reducible refine Chg.alloc ?_ _ | with_reducible refine Chg.setCell ?_ _ _ (by first | (simp; done) | omega | (simp; omega)) | with_reducible refine Chg.setBlock ?_ _ _ (by first | (simp; done) | omega | (simp; omega)) | exact Chg.refl _ _)))).moves hh7 mm7, ⟨(HC.out.same (Chg.below (by repeat (first | with_reducible exact Chg.refl _ _ | with_reducible exact chg0 | with_reducible refine Chg.drewN ?_ _ | with_reducible refine Chg.drew ?_ | with_reducible refine Chg.alloc ?_ _ | with_reducible refine Chg.setCell ?_ _ _ (by first | (simp; done) | omega | (simp; omega)) | with_reducible refine Chg.setBlock ?_ _ _ (by first | (simp; done) | omega | (simp; omega)) | exact Chg.refl _ _)))).here.chg mm7.chg fun j hj hf => HD.out j hf hj, HC.out.low, ((HT.out.same (Chg.below (by repeat (first | with_reducible exact Chg.refl _ _ | with_reducible exact chg0 | with_reducible refine Chg.drewN ?_ _ | with_reducible refine Chg.drew ?_ | with_reducible refine Chg.alloc ?_ _ | with_reducible refine Chg.setCell ?_ _ _ (by first | (simp; done) | omega | (simp; omega)) | with_reducible refine Chg.setBlock ?_ _ _ (by first | (simp; done) | omega | (simp; omega)) | exact Chg.refl _ _)))).moves hh7 mm7).below⟩, fun j h1 h2 => ?_, hU7, fun j h1 h2 => ?_, Hrem.out⟩
            · rcases mm7.fresh j h1 with h3 | h3
              · exact HD.out j h3 h2
              · have := HC.out.here.lt h2
                simp [go_sem] at h3; omega
            · rcases mm7.fresh j h1 with h3 | h3
              · exact HUD.out j h3 h2
              · have := HU.out.lt h2
                simp [go_sem] at h3; omega
          case measure => omega
        · have ht0 : t.all = [] := by
            have := Hin.out
            rw [List.drop_of_length_le (by omega)] at this
            cases hq : t.all with
            | nil => rfl
            | cons x y => obtain ⟨a, ha, _⟩ := this x (by rw [hq]; simp); cases ha
          have htl : t.list = [] := by rw [Lines.list, ht0]; simp
          have Htl := Lib.hid htl
          have ask0 : wr.cell? ⟨w.heap.size + 1, 0, none⟩ = some (.int .i64 a0) := by rw [HT.out.below.cell (by simp; omega)]; exact AA.out.1
          have ask1 : wr.cell? ⟨w.heap.size + 1, 1, none⟩ = some (.int .i64 a1) := by rw [HT.out.below.cell (by simp; omega)]; exact AA.out.2
          clear ht0 htl Hin
          go_wp2_with fail
          refine (Victim_calls a0 a1 (HC.out.same (Chg.below (by repeat (first | with_reducible exact Chg.refl _ _ | with_reducible exact chg0 | with_reducible refine Chg.drewN ?_ _ | with_reducible refine Chg.drew ?_ | with_reducible refine Chg.alloc ?_ _ | with_reducible refine Chg.setCell ?_ _ _ (by first | (simp; done) | omega | (simp; omega)) | with_reducible refine Chg.setBlock ?_ _ _ (by first | (simp; done) | omega | (simp; omega)) | exact Chg.refl _ _)))).here).mono ?_
          rintro e w8 ⟨rfl, n8, rfl⟩
          rw [← E1.out, ← E2.out]
          go_wp2_with fail
          refine (List_calls (HC.out.same (Chg.below (by repeat (first | with_reducible exact Chg.refl _ _ | with_reducible exact chg0 | with_reducible refine Chg.drewN ?_ _ | with_reducible refine Chg.drew ?_ | with_reducible refine Chg.alloc ?_ _ | with_reducible refine Chg.setCell ?_ _ _ (by first | (simp; done) | omega | (simp; omega)) | with_reducible refine Chg.setBlock ?_ _ _ (by first | (simp; done) | omega | (simp; omega)) | exact Chg.refl _ _)))).here).mono ?_
          rintro e w9 ⟨u9, rfl, hu9, _, hb9⟩
          replace HT := Lib.hid ((HT.out.same (Chg.below (by repeat (first | with_reducible exact Chg.refl _ _ | with_reducible exact chg0 | with_reducible refine Chg.drewN ?_ _ | with_reducible refine Chg.drew ?_ | with_reducible refine Chg.alloc ?_ _ | with_reducible refine Chg.setCell ?_ _ _ (by first | (simp; done) | omega | (simp; omega)) | with_reducible refine Chg.setBlock ?_ _ _ (by first | (simp; done) | omega | (simp; omega)) | exact Chg.refl _ _)))).same hb9)
          replace HU := Lib.hid (HU.out.chg (S := fun _ => False) (Chg.of_below (below_trans (Chg.below (by repeat (first | with_reducible exact Chg.refl _ _ | with_reducible exact chg0 | with_reducible refine Chg.drewN ?_ _ | with_reducible refine Chg.drew ?_ | with_reducible refine Chg.alloc ?_ _ | with_reducible refine Chg.setCell ?_ _ _ (by first | (simp; done) | omega | (simp; omega)) | with_reducible refine Chg.setBlock ?_ _ _ (by first | (simp; done) | omega | (simp; omega)) | exact Chg.refl _ _))) hb9)) (fun _ _ h => h))
          have HU9 := Lib.hid hu9.slice
          clear hu9 hb9 ask0 ask1
          have b1 : (x1 == x1) = true := by simp
          have b2 : (x2 == x2) = true := by simp
          go_wp2_with fail
          refine (Ints_calls s.list s.list _ _ _ (HU9.out.below (Chg.below (by repeat (first | with_reducible exact Chg.refl _ _ | with_reducible exact chg0 | with_reducible refine Chg.drewN ?_ _ | with_reducible refine Chg.drew ?_ | with_reducible refine Chg.alloc ?_ _ | with_reducible refine Chg.setCell ?_ _ _ (by first | (simp; done) | omega | (simp; omega)) | with_reducible refine Chg.setBlock ?_ _ _ (by first | (simp; done) | omega | (simp; omega)) | exact Chg.refl _ _)))) (HU.out.slice.below (Chg.below (by repeat (first | with_reducible exact Chg.refl _ _ | with_reducible exact chg0 | with_reducible refine Chg.drewN ?_ _ | with_reducible refine Chg.drew ?_ | with_reducible refine Chg.alloc ?_ _ | with_reducible refine Chg.setCell ?_ _ _ (by first | (simp; done) | omega | (simp; omega)) | with_reducible refine Chg.setBlock ?_ _ _ (by first | (simp; done) | omega | (simp; omega)) | exact Chg.refl _ _))))).mono ?_
          rintro e w10 ⟨rfl, n10, rfl⟩
          rw [show decide (s.list = s.list) = true from decide_eq_true rfl]
          go_wp2_with fail
          refine (List_calls (HT.out.same (Chg.below (by repeat (first | with_reducible exact Chg.refl _ _ | with_reducible exact chg0 | with_reducible refine Chg.drewN ?_ _ | with_reducible refine Chg.drew ?_ | with_reducible refine Chg.alloc ?_ _ | with_reducible refine Chg.setCell ?_ _ _ (by first | (simp; done) | omega | (simp; omega)) | with_reducible refine Chg.setBlock ?_ _ _ (by first | (simp; done) | omega | (simp; omega)) | exact Chg.refl _ _)))).here).mono ?_
          rintro e w11 ⟨u11, rfl, hu11, _, hb11⟩
          rw [Htl.out] at hu11
          obtain ⟨A11, cap11, e11⟩ := hu11.form
          rw [ints_length] at e11
          subst e11
          replace HT := Lib.hid ((HT.out.same (Chg.below (by repeat (first | with_reducible exact Chg.refl _ _ | with_reducible exact chg0 | with_reducible refine Chg.drewN ?_ _ | with_reducible refine Chg.drew ?_ | with_reducible refine Chg.alloc ?_ _ | with_reducible refine Chg.setCell ?_ _ _ (by first | (simp; done) | omega | (simp; omega)) | with_reducible refine Chg.setBlock ?_ _ _ (by first | (simp; done) | omega | (simp; omega)) | exact Chg.refl _ _)))).same hb11)
          go_wp2_with fail
          go_ret
          exact ⟨by simp, below_trans B1.out HT.out.below⟩

set_option maxRecDepth 100000 in
theorem linesCopies_lifted (os : Os) (started : os.Started) (H : Type) (enc : TypeId × Value → H) :
    ReturnsInHanded {} Try.checked os 5 .any (Rows.linesCopiesSpec.pre6 enc Try.prog Try.f5 Rows.linesCopiesRow.domain false) (Rows.linesCopiesSpec.post enc Try.prog Try.f5 false true false false) := by
  refine returnsInHanded_of_change (C := Try.checked) law_own started (by kernel_rfl) Try.func5
    (ChangeSpec.witness6 (enc := enc) (C := Try.checked) false ⟨#[], #[.agg #[.int .i64 0, .int .i64 0], .slice none 0 0, .agg #[.int .i64 0, .int .i64 0]], []⟩ 8 (by kernel_rfl) (by kernel_rfl) (by kernel_rfl) (by kernel_rfl)) ?_
  intro W base args ds gs before hval0 hW hcnd _
  have hval : ∀ (j : Nat) t v, Try.f5.params[j]? = some t → args[j]? = some v → Value.okWide Try.prog W .any base t v := hval0
  have hW' := hW
  obtain ⟨p, q, hA0, hV, rfl, hfz, hnd⟩ := hW
  have hA : DataW.TrodAll enc Try.prog W 0 (fun _ => true) true Try.f5.params.toList args.toList ds p := hA0
  rw [Try.params5] at hA hval
  obtain ⟨v0, vs0, d0, ds0, p0, q0, hargs, rfl, rfl, h0, r0⟩ := trodAll_cons hA
  obtain ⟨v1, vs1, d1, ds1, p1, q1, rfl, rfl, rfl, h1, r1⟩ := trodAll_cons r0
  obtain ⟨v2, vs2, d2, ds2, p2, q2, rfl, rfl, rfl, h2, r2⟩ := trodAll_cons r1
  obtain ⟨rfl, rfl, rfl⟩ := trodAll_nil r2
  obtain rfl : args = #[v0, v1, v2] := by cases args; simp_all
  obtain ⟨rfl, rfl⟩ := trodVars_none hV
  have k0 := h0
  have lt0 : ∀ x ∈ p0, x.block < W.heap.size := by obtain ⟨m, hm⟩ := k0; exact DataW.trod_lt m _ _ _ hm
  obtain ⟨f0, g0⟩ := h0
  obtain ⟨cs0, rfl, _⟩ := okWide_array Try.underlying22 (hval 0 22 v0 rfl rfl)
  obtain ⟨x0, e0, o0⟩ := Pair.of_trod g0
  obtain rfl : cs0 = x0.cells.toArray := by simp only [Value.cells] at e0; rw [← e0]
  have k1 := h1
  have lt1 : ∀ x ∈ p1, x.block < W.heap.size := by obtain ⟨m, hm⟩ := k1; exact DataW.trod_lt m _ _ _ hm
  obtain ⟨f1, g1⟩ := h1
  obtain ⟨l1, s1, o1⟩ := slice_of_trod (sz := 2) (cells := Act08.cells) (ok := Act08.ok) Try.underlying34 (by kernel_rfl) (by decide) (fun _ => rfl) Act08.of_trod g1 (okWide_slice Try.underlying34 (hval 1 34 v1 rfl rfl))
  have k2 := h2
  have lt2 : ∀ x ∈ p2, x.block < W.heap.size := by obtain ⟨m, hm⟩ := k2; exact DataW.trod_lt m _ _ _ hm
  obtain ⟨f2, g2⟩ := h2
  obtain ⟨cs2, rfl, _⟩ := okWide_array Try.underlying22 (hval 2 22 v2 rfl rfl)
  obtain ⟨x2, e2, o2⟩ := Pair.of_trod g2
  obtain rfl : cs2 = x2.cells.toArray := by simp only [Value.cells] at e2; rw [← e2]
  clear hA0 hval0
  refine (linesCopies_walk x0 o0 l1 v1 W s1 o1 x2 o2).mono fun e W' ⟨he, bel⟩ => ?_
  subst he
  exact ⟨_, rfl, _, _, _, [], _, [], hW', trodAll_mk1 (shut_bool Try.underlying4 _), (trodAll_cons_mk (Below.trod law_laidOut (by kernel_rfl) (of_decide_eq_true (by kernel_rfl)) k0 bel lt0) (trodAll_cons_mk (Below.trod law_laidOut (by kernel_rfl) (of_decide_eq_true (by kernel_rfl)) k1 bel lt1) (trodAll_cons_mk (Below.trod law_laidOut (by kernel_rfl) (of_decide_eq_true (by kernel_rfl)) k2 bel lt2) trodAll_mk0))), rfl, bel.frame _, fun h => by cases h⟩

theorem linesCopies_holds : Rows.LinesCopiesSaid :=
  OpenClaim.holds_of_wide 5 Try.f5 rfl rfl rfl rfl rfl rfl rfl ⟨rfl, rfl, rfl, rfl, rfl⟩ rfl rfl rfl rfl rfl (by kernel_rfl) Try.func5 (by kernel_rfl)
    (of_decide_eq_true (by kernel_rfl)) (by unfold Func.isWrapper; first | (rw [if_pos (by decide +kernel)]; kernel_rfl) | (rw [if_neg (by decide +kernel)]; exact ⟨rfl, rfl⟩))
    (fun os started H enc _ => linesCopies_lifted os started H enc)
end Go.Proofs.Ytocnhmakgbdbfaa
