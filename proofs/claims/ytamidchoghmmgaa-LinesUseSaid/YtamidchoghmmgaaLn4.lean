/-
  The program's lines: List, Copy.
-/
import Derived.Test.YtamidchoghmmgaaLn3
namespace Go.Proofs.Ytamidchoghmmgaa
open Go.RowKit Go.Sort
open Go.ChangeMaps (setBlock)
set_option linter.unusedVariables false
set_option linter.unusedSimpArgs false

section
variable {w : World} {p : Nat} {s : Lines} {F : Nat → Prop}

/-- When all keys were handed out, all blocks were. -/
theorem LinesIn.whole {mb : Nat} {o : Obj} {f : Int → Option Value} (h : LinesIn w p mb o f s) (D : List Int) (hD : D.Nodup) (hd : ∀ k v, f k = some v → k ∈ D) : (D.map s.row).flatten.Perm s.all := by
  have h1 := rows_perm s D hD
  rw [List.filter_eq_self.2] at h1
  · exact h1
  · intro b hb
    rw [decide_eq_true_eq]
    cases hf : f (b % s.sets) with
    | some v => exact hd _ v hf
    | none =>
      have := h.nil _ hf
      have hm := (s.mem_mates b).2 hb
      unfold Lines.mates at hm
      rw [this] at hm; cases hm
theorem rows_few (h : s.Ok) (D : List Int) (hD : D.Nodup) : (D.map s.row).flatten.length ≤ 1024 := by
  rw [(rows_perm s D hD).length_eq]
  have := List.length_filter_le (fun b => decide (b % s.sets ∈ D)) s.all
  have := Lines.few h
  omega

set_option maxHeartbeats 1000000 in
set_option maxRecDepth 20000 in
theorem List_calls (h : LinesAt w p s F) :
    Calls Try.prog 21 #[.pointer (some ⟨p, 0, none⟩)] w fun e w' => ∃ v, e = .returned v ∧ OwnSl w' 3 1 v (ints s.list) ∧ (∀ k, v.ownBlock = some k → w.heap.size ≤ k) ∧ Below w.heap.size w w' := by
  obtain ⟨mb, o, f, h, hF, hFl⟩ := h
  have c2 : w.cell? ⟨p, 2, none⟩ = some (.map (some mb)) := cell_ob h.at_ _
  have H := Lib.hid h
  obtain ⟨io, hio, hit⟩ := h.obj.range (P := Try.prog) tyIR mb w h.map
  have Hit := Lib.hid hit
  have lm := ob_lt h.map
  clear h hF hFl hit
  go_enter Try.func21, Try.ntmps21
  go_wp2_with fail
  have hne : w.heap.size ≠ mb := by omega
  go_loopw [3] (fun v wr => ∃ (D : List Int), D.Nodup ∧ (∀ k ∈ D, f k ≠ none) ∧ IterAt wr w.heap.size mb o D ∧ LinesIn wr p mb o f s ∧ OwnSl wr 3 1 v (ints ((D.map s.row).flatten)) ∧ (∀ j, v.ownBlock = some j → w.heap.size < j) ∧ Below w.heap.size w wr) (fun _ W => leftN W w.heap.size mb)
  case atStart => exact ⟨[], List.nodup_nil, by simp, Hit.out, H.out.chg (S := fun _ => False) (by repeat (first | with_reducible exact Chg.refl _ _ | with_reducible exact chg0 | with_reducible refine Chg.drewN ?_ _ | with_reducible refine Chg.drew ?_ | with_reducible refine Chg.alloc ?_ _ | with_reducible refine Chg.setCell ?_ _ _ (by first | (simp; done) | omega | (simp; omega)) | with_reducible refine Chg.setBlock ?_ _ _ (by first | (simp; done) | omega | (simp; omega)) | exact Chg.refl _ _)) (fun _ _ h => h), OwnSl.nil, fun j hj => by simp [Value.ownBlock] at hj, Chg.below (by repeat (first | with_reducible exact Chg.refl _ _ | with_reducible exact chg0 | with_reducible refine Chg.drewN ?_ _ | with_reducible refine Chg.drew ?_ | with_reducible refine Chg.alloc ?_ _ | with_reducible refine Chg.setCell ?_ _ _ (by first | (simp; done) | omega | (simp; omega)) | with_reducible refine Chg.setBlock ?_ _ _ (by first | (simp; done) | omega | (simp; omega)) | exact Chg.refl _ _))⟩
  case round =>
    obtain ⟨D, hD, hDf, hi, hl, hown, hlo, hb⟩ := hrel
    have Hi := Lib.hid hi
    have HDf := Lib.hid hDf
    have Hl := Lib.hid hl
    have Hown := Lib.hid hown
    have Hlo := Lib.hid hlo
    have Hb := Lib.hid hb
    have sr := hb.size
    have lir : w.heap.size < wr.heap.size := by obtain ⟨_, _, _, _, _, _, h, _⟩ := hi; exact ob_lt h
    clear hi hDf hl hown hlo hb Hit
    rcases IterAt.next (P := Try.prog) H.out.obj Hi.out hne with ⟨hdone, hrun⟩ | ⟨k, v, w2, hfk, hkD, hrun, hc, hsz, hit2, io2, hio2, hent⟩
    · have hfew := rows_few H.out.ok D hD
      have hperm := sort_perm (H.out.whole D hD hdone)
      clear hdone
      go_wp2_with fail
      refine (Sort_calls _ u3 _ Hown.out (by omega)).mono ?_
      rintro e w4 ⟨rfl, ho, hc⟩
      rw [hperm] at ho
      go_wp2_with fail
      go_ret
      exact ⟨u3, rfl, ho, fun k hk => Nat.le_of_lt (Hlo.out k hk), below_chg Hb.out hc (fun k hk e => by have := Hlo.out k e; omega)⟩
    · have hent1 := fun W h1 h2 => (hent W h1 h2).1
      have Hent := Lib.hid (fun W h1 h2 => (hent W h1 h2).2)
      have hm2 : ob w2 mb = some o := hc.ob Hl.out.map (Ne.symm hne)
      have hD' : (D ++ [k]).Nodup := by rw [List.nodup_append]; exact ⟨hD, by simp, fun a ha c hc => by simp at hc; subst hc; exact fun e => hkD (e ▸ ha)⟩
      have hfew := rows_few H.out.ok (D ++ [k]) hD'
      have hov : OwnSl w2 3 1 v (ints (s.row k)) := (Hl.out.rows k v hfk).chg hc fun j hj e => by
        have := (H.out.rows k v hfk).lt hj; omega
      have Hov := Lib.hid hov
      have Hfk := Lib.hid hfk
      rw [List.map_append, List.flatten_append, List.length_append] at hfew
      have hl1 : ([k].map s.row).flatten = s.row k := by simp
      rw [hl1] at hfew
      clear hent hov hfk hio hkD
      go_wp2_with (at_builtin; refine wpList_append_sl (xs := ints ((D.map s.row).flatten)) (ys := ints (s.row k)) rfl _ _ rfl tyInts rfl rfl (Hown.out.chg hc (fun j hj e => by have := Hlo.out j hj; omega)) Hov.out.slice (ints_ok _) (by simp only [ints_length]; omega) ?_; intro v5 w5 ho hc5 hloc)
      have hcc : Chg (fun j => j = w.heap.size ∨ u3.ownBlock = some j) wr w5 := Chg.trans (S' := fun j => u3.ownBlock = some j) (hc.mono fun _ _ h => .inl h) hc5 (fun _ _ h => .inr h)
      have hsz5 := hc5.size
      have q1 : ob w5 w.heap.size = some io2 := hc5.ob hio2 (fun e => by have := Hlo.out _ e; omega)
      have q2 : ob w5 mb = some o := hc5.ob hm2 (fun e => by have := Hlo.out _ e; omega)
      refine ⟨⟨D ++ [k], hD', ?_, ?_, ?_, ?_, ?_, ?_⟩, Hent.out w5 q1 q2⟩
      · intro q hq
        rcases List.mem_append.1 hq with hq | hq
        · exact HDf.out q hq
        · simp at hq; subst hq; rw [Hfk.out]; exact fun e => by cases e
      · exact hit2.chg hc5 (fun e => by have := Hlo.out _ e; omega) (fun e => by have := Hlo.out _ e; omega)
      · refine Hl.out.chg hcc ?_
        rintro j hj (e | e)
        · have : j < w.heap.size := by
            rcases hj with rfl | rfl | ⟨q, u, hq, hj⟩
            · exact ob_lt H.out.at_
            · exact lm
            · exact (H.out.rows q u hq).lt hj
          omega
        · have : j < w.heap.size := by
            rcases hj with rfl | rfl | ⟨q, u, hq, hj⟩
            · exact ob_lt H.out.at_
            · exact lm
            · exact (H.out.rows q u hq).lt hj
          have := Hlo.out j e
          omega
      · rw [List.map_append, List.flatten_append, hl1, ints_append]; exact ho
      · intro j hj
        rcases hloc with h | h
        · rw [h] at hj; exact Hlo.out j hj
        · rw [h] at hj; injection hj with hj; rw [← hj]; omega
      · refine below_chg Hb.out hcc ?_
        rintro j hj (e | e)
        · omega
        · have := Hlo.out j e; omega
end
end Go.Proofs.Ytamidchoghmmgaa
