/-
  The document's lines: List, Copy.
-/
import Derived.Test.YtamidchoghmmgaaLnR4
import Derived.StillTailTactics
namespace Go.Proofs.Ytamidchoghmmgaa
open Go.RowKit Go.Sort
open Go.ChangeMaps (setBlock)
set_option linter.unusedVariables false
set_option linter.unusedSimpArgs false

section
variable {w : World} {p : Nat} {s : Lines} {F : Nat → Prop}

theorem ins_sorted {O : List Int} {x : Int} {k : Nat} (hs : List.Pairwise (fun a b => a ≤ b) O) (h1 : ∀ j, j < k → j < O.length → O.getD j 0 < x) (h2 : k = O.length ∨ x ≤ O.getD k 0) (hk : k ≤ O.length) :
    List.Pairwise (fun a b => a ≤ b) (O.take k ++ [x] ++ O.drop k) := by
  have a1 : ∀ y ∈ O.take k, y ≤ x := by
    intro y hy
    obtain ⟨j, hj⟩ := List.getElem?_of_mem hy
    rw [List.getElem?_take] at hj
    split at hj
    · have hl := (List.getElem?_eq_some_iff.1 hj).1
      have := h1 j (by assumption) hl
      rw [List.getD, hj, Option.getD_some] at this; omega
    · cases hj
  have a2 : ∀ y ∈ O.drop k, x ≤ y := by
    intro y hy
    obtain ⟨j, hj⟩ := List.getElem?_of_mem hy
    rw [List.getElem?_drop] at hj
    have hl := (List.getElem?_eq_some_iff.1 hj).1
    rcases h2 with h2 | h2
    · omega
    · have hk' : k < O.length := by omega
      have e1 : O.getD k 0 = O[k] := by simp [List.getD, hk']
      rw [e1] at h2
      rcases Nat.eq_zero_or_pos j with rfl | hp
      · have e2 := (List.getElem?_eq_some_iff.1 hj).2
        simp only [Nat.add_zero] at e2
        omega
      · have := List.pairwise_iff_getElem.1 hs k (k + j) hk' hl (by omega)
        have e2 := (List.getElem?_eq_some_iff.1 hj).2
        omega
  rw [List.append_assoc, List.pairwise_append]
  refine ⟨hs.sublist (List.take_sublist k O), ?_, ?_⟩
  · rw [List.singleton_append, List.pairwise_cons]
    exact ⟨a2, hs.sublist (List.drop_sublist k O)⟩
  · intro a ha b hb
    rw [List.singleton_append, List.mem_cons] at hb
    rcases hb with rfl | hb
    · exact a1 a ha
    · have := a1 a ha
      have := a2 b hb
      omega
theorem ins_perm (O : List Int) (x : Int) (k : Nat) : (O.take k ++ [x] ++ O.drop k).Perm (O ++ [x]) := by
  have h1 : (O.take k ++ [x] ++ O.drop k).Perm (O.take k ++ O.drop k ++ [x]) := by
    rw [List.append_assoc, List.append_assoc]
    exact List.Perm.append_left _ List.perm_append_comm
  rw [List.take_append_drop] at h1
  exact h1
theorem own_take {w : World} {e : TypeId} {A : Option Addr} {cap : Nat} {l : List Int} (h : OwnSl w e 1 (.slice A l.length cap) (ints l)) (k : Nat) (hk : k ≤ l.length) : OwnSl w e 1 (.slice A k cap) (ints (l.take k)) := by
  rcases ownInts_cells h with ⟨hv, rfl⟩ | ⟨g, cap', cur, hv, hb, h1, h2, h3, h4⟩
  · simp only [Value.slice.injEq] at hv
    obtain ⟨rfl, _, rfl⟩ := hv
    simp only [List.length_nil, Nat.le_zero] at hk
    subst hk
    exact h
  · simp only [Value.slice.injEq] at hv
    obtain ⟨rfl, _, rfl⟩ := hv
    have := ownInts_of (l := l.take k) (cap := cap) hb (by simp; omega) h2 h3 (by rw [List.length_take, List.map_take, ← h4, List.take_take])
    rw [List.length_take_of_le hk] at this
    exact this

theorem own_take' {w : World} {e : TypeId} {A : Option Addr} {cap : Nat} {l : List Int} {P : Nat → Prop} (h : OwnSl w e 1 (.slice A l.length cap) (ints l)) (k : Nat) (hk : k ≤ l.length) (hP : ∀ j, (Value.slice A l.length cap).ownBlock = some j → P j) :
    OwnSl w e 1 (.slice A k cap) (ints (l.take k)) ∧ ∀ j, (Value.slice A k cap).ownBlock = some j → P j := by
  refine ⟨own_take h k hk, ?_⟩
  have : (Value.slice A k cap).ownBlock = (Value.slice A l.length cap).ownBlock := by cases A <;> rfl
  rw [this]; exact hP

set_option maxHeartbeats 1000000 in
set_option maxRecDepth 20000 in
theorem RefList_calls (h : RefAt w p s F) (hl : s.all.length ≤ 100000) :
    Calls Try.prog 22 #[.pointer (some ⟨p, 0, none⟩)] w fun e w' => ∃ v, e = .returned v ∧ OwnSl w' 3 1 v (ints s.list) ∧ (∀ k, v.ownBlock = some k → w.heap.size ≤ k) ∧ Below w.heap.size w w' := by
  obtain ⟨v, h, _⟩ := h
  have c2 : w.cell? ⟨p, 2, none⟩ = some v := cell_ob h.at_ _
  have lp := ob_lt h.at_
  have H := Lib.hid h
  clear h
  go_enter Try.func22, Try.ntmps22
  go_wp2_with fail
  obtain ⟨A, cap, rfl, r1, r2, r3⟩ := ints_at H.out.all.slice (Chg.below (Chg.refl _ _))
  have R3 := Lib.hid r3
  clear r3
  go_loopw [3, 4] (fun u i wr => ∃ (k : Nat) (O : List Int), k ≤ s.all.length ∧ i = .int .i64 k ∧ O.Perm (s.all.take k) ∧ List.Pairwise (fun a b => a ≤ b) O ∧ OwnSl wr 3 1 u (ints O) ∧ (∀ j, u.ownBlock = some j → w.heap.size ≤ j) ∧ Below w.heap.size w wr) (fun _ i _ => s.all.length - (intOf i).toNat)
  case atStart => exact ⟨0, [], Nat.zero_le _, rfl, List.Perm.refl _, List.Pairwise.nil, OwnSl.made (c := #[]) (ob_alloc_new _ _ _ rfl) RowsOk.nil rfl (by decide), fun j hj => by simp only [Value.ownBlock, Option.some.injEq] at hj; omega, Chg.below (by repeat (first | with_reducible exact Chg.refl _ _ | with_reducible exact chg0 | with_reducible refine Chg.drewN ?_ _ | with_reducible refine Chg.drew ?_ | with_reducible refine Chg.alloc ?_ _ | with_reducible refine Chg.setCell ?_ _ _ (by first | (simp; done) | omega | (simp; omega)) | with_reducible refine Chg.setBlock ?_ _ _ (by first | (simp; done) | omega | (simp; omega)) | exact Chg.refl _ _))⟩
  case round =>
    obtain ⟨k, O, hk, rfl, hperm, hsort, hown, hlo, hb⟩ := hrel
    have Hown := Lib.hid hown
    have Hlo := Lib.hid hlo
    have Hb := Lib.hid hb
    have Hperm := Lib.hid hperm
    have Hsort := Lib.hid hsort
    have sr := hb.size
    have c2r : wr.cell? ⟨p, 2, none⟩ = some (.slice A s.all.length cap) := by rw [hb.cell lp]; exact c2
    have HOl := Lib.hid (show O.length = k by rw [hperm.length_eq, List.length_take]; omega)
    clear hown hlo c2 hperm hsort
    have hO5 : O.length ≤ 100000 := by have := HOl.out; omega
    by_cases hlt : k < s.all.length
    · obtain ⟨q, off, rfl, hc⟩ := R3.out k hlt
      have hck : wr.cell? ⟨q, off + k, none⟩ = some (.int .i64 (s.all.getD k 0)) := by rw [hb.cell (World.block_lt_of_cell? w _ hc)]; exact hc
      have ht : s.all.take (k + 1) = s.all.take k ++ [s.all.getD k 0] := by rw [List.take_succ_eq_append_getElem hlt]; simp [List.getD, hlt]
      have Ht := Lib.hid ht
      clear ht hc hb
      generalize s.all.getD k 0 = x at *
      obtain ⟨A2, cap2, rfl, o1, o2, o3⟩ := ints_at Hown.out.slice (Chg.below (Chg.refl _ _))
      have O3 := Lib.hid o3
      clear o3
      go_wp2_with fail
      go_loopw [5] (fun i W => ∃ (m n : Nat), m ≤ O.length ∧ i = .int .i64 m ∧ (∀ j, j < m → j < O.length → O.getD j 0 < x) ∧ W = wr.drewN n) (fun i _ => O.length - (intOf i).toNat)
      case atStart => exact ⟨0, 0, Nat.zero_le _, rfl, fun j hj => absurd hj (Nat.not_lt_zero _), rfl⟩
      case round =>
        obtain ⟨m, n, hm, rfl, hlow, rfl⟩ := hrel
        have Hlow := Lib.hid hlow
        clear hlow
        have hfrom : ∀ W, Chg (fun _ => False) wr W → ∀ A', (m < O.length → ∀ b off, A2 = some ⟨b, off, none⟩ → A' = some ⟨b, off + m, none⟩) → SliceIs W 1 (.slice A' (O.length - m) (cap2 - m)) (ints (O.drop m)) := fun W hW A' hA' => ints_from (Hown.out.slice.below hW.below) m hm hA'
        have HFrom := Lib.hid hfrom
        clear hfrom
        have hki : (k : Int) < (s.all.length : Int) := by omega
        have hmc : m ≤ cap2 := by omega
        by_cases hml : m < O.length
        · obtain ⟨q2, off2, rfl, hcm⟩ := O3.out m hml
          have hmi : (m : Int) < (O.length : Int) := by omega
          have hmd : decide ((m : Int) < (O.length : Int)) = true := by simp; omega
          obtain ⟨y, hy⟩ : ∃ y, y = O.getD m 0 := ⟨_, rfl⟩
          rw [← hy] at hcm
          have Hy := Lib.hid hy
          clear hy
          by_cases hyx : y < x
          · have hyd : decide (y < x) = true := by simpa using hyx
            go_wp2_with fail
            go_quiet (fail)
            go_wp2_with fail
            refine ⟨⟨m + 1, _, by omega, by go_num, fun j hj hjl => ?_, rfl⟩, by simp [intOf]; omega⟩
            rcases Nat.lt_succ_iff_lt_or_eq.1 hj with h | h
            · exact Hlow.out j h hjl
            · rw [h, ← Hy.out]; exact hyx
          · have hyd : decide (y < x) = false := by simpa using hyx
            go_wp2_with fail
            go_quiet (fail)
            have hup : m = O.length ∨ x ≤ O.getD m 0 := .inr (by rw [← Hy.out]; omega)
            have Hup := Lib.hid hup
            clear hup
            go_wp2_with (at_builtin; refine wpList_append_sl (v := .slice (some ⟨wr.heap.size, 0, none⟩) 0 0) (xs := []) (ys := ints (O.drop m)) rfl _ _ rfl tyInts rfl rfl (OwnSl.made (c := #[]) (e := 3) (b := wr.heap.size) (by rw [ob_drewN]; exact ob_alloc_at _ _) RowsOk.nil rfl (by decide)) (HFrom.out _ (Chg.drewN (Chg.alloc (Chg.refl _ _) _) _) _ (by intro hlt b off e; first | omega | (rw [e]; rfl) | (cases e; rfl) | (exfalso; omega))) (ints_ok _) (by simp; omega) ?_; intro v3 w3 ho3 hc3 hloc3)
            all_goals
              have hw3 : Chg (fun _ => False) wr w3 := Chg.trans (S' := fun j => j = wr.heap.size) (by repeat (first | with_reducible exact Chg.refl _ _ | with_reducible exact chg0 | with_reducible refine Chg.drewN ?_ _ | with_reducible refine Chg.drew ?_ | with_reducible refine Chg.alloc ?_ _ | with_reducible refine Chg.setCell ?_ _ _ (by first | (simp; done) | omega | (simp; omega)) | with_reducible refine Chg.setBlock ?_ _ _ (by first | (simp; done) | omega | (simp; omega)) | exact Chg.refl _ _)) (hc3.mono (fun j _ e => (Option.some.inj e).symm)) (fun j hj e => by omega)
              have lo3 : ∀ j, v3.ownBlock = some j → wr.heap.size ≤ j := fun j hj => fresh_of hloc3 (fun k hk => Nat.le_of_eq (Option.some.inj hk)) (by simp) hj
              have c2w := hw3.cell c2r (fun h => h)
              have hcw := hw3.cell hck (fun h => h)
              have sz3 := hw3.size
              have lp3 : p < w3.heap.size := by omega
              have lq3 : q < w3.heap.size := World.block_lt_of_cell? w3 _ hcw
              have ow2 := own_take' (P := fun j => w.heap.size ≤ j ∧ j < wr.heap.size) (Hown.out.chg hw3 (fun _ _ h => h)) m hm (fun j hj => ⟨Hlo.out j hj, Hown.out.lt hj⟩)
              have Own2 := Lib.hid ow2.1
              have Lo2 := Lib.hid ow2.2
              have Lo3 := Lib.hid lo3
              have Ho3 := Lib.hid (show OwnSl w3 3 1 v3 (ints (O.drop m)) from ho3)
              have Hw3 := Lib.hid hw3
              clear hw3 lo3 ow2 ho3 hc3 hloc3 c2r hck
            all_goals try (have hcm : cap2 = m := (by first | assumption | omega); rw [hcm] at Own2 Lo2)
            all_goals
              go_region_law (first
                | (refine step_append_sl (xs := ints (O.take m)) (ys := [[.int .i64 x]]) rfl _ _ rfl tyInts rfl rfl (Own2.out.chg (S := fun _ => False) (by repeat (first | with_reducible exact Chg.refl _ _ | with_reducible exact chg0 | with_reducible refine Chg.drewN ?_ _ | with_reducible refine Chg.drew ?_ | with_reducible refine Chg.alloc ?_ _ | with_reducible refine Chg.setCell ?_ _ _ (by first | (simp; done) | omega | (simp; omega)) | with_reducible refine Chg.setBlock ?_ _ _ (by first | (simp; done) | omega | (simp; omega)) | exact Chg.refl _ _)) (fun _ _ h => h)) (OwnSl.made (e := 3) (c := #[.int .i64 x]) (b := w3.heap.size) (by first | exact ob_alloc_new _ _ _ rfl | (rw [ob_drew]; exact ob_alloc_new _ _ _ rfl) | (rw [ob_drewN]; exact ob_alloc_new _ _ _ rfl)) (ints_ok [x]) rfl (by simp)).slice (ints_ok [x]) (by simp; omega) ?_; intro v4 w4 ho4 hc4 hloc4; have hc4' : Chg (fun j => w.heap.size ≤ j ∧ j < wr.heap.size) w3 w4 := Chg.trans (S' := fun j => w.heap.size ≤ j ∧ j < wr.heap.size) (by repeat (first | with_reducible exact Chg.refl _ _ | with_reducible exact chg0 | with_reducible refine Chg.drewN ?_ _ | with_reducible refine Chg.drew ?_ | with_reducible refine Chg.alloc ?_ _ | with_reducible refine Chg.setCell ?_ _ _ (by first | (simp; done) | omega | (simp; omega)) | with_reducible refine Chg.setBlock ?_ _ _ (by first | (simp; done) | omega | (simp; omega)) | exact Chg.refl _ _)) (hc4.mono (fun j _ e => Lo2.out j e)) (fun _ _ h => h); have lo4 : ∀ j, v4.ownBlock = some j → w.heap.size ≤ j := fun j hj => fresh_of hloc4 (fun k hk => (Lo2.out k hk).1) (by simp <;> omega) hj; have Ho34 := Lib.hid (Ho3.out.chg hc4' (fun j hj e => absurd (Lo3.out j hj) (by omega))))
                | (refine step_append_sl (v := v4) (xs := ints (O.take m) ++ [[.int .i64 x]]) (ys := ints (O.drop m)) rfl _ _ rfl tyInts rfl rfl ho4 Ho34.out.slice (ints_ok _) (by simp; omega) ?_; intro v5 w5 ho5 hc5 hloc5; have lo5 : ∀ j, v5.ownBlock = some j → w.heap.size ≤ j := fun j hj => fresh_of hloc5 lo4 (by have := hc4'.size; omega) hj))
            all_goals (go_wp2_with fail)
            all_goals
              have hc5' : Chg (fun j => w.heap.size ≤ j) wr w5 := (Hw3.out.mono fun _ _ h => h.elim).trans ((hc4'.mono fun _ _ h => h.1).trans (S := fun j => w.heap.size ≤ j) hc5 (fun j _ e => lo4 j e)) (fun _ _ h => h)
              have hlen : (O.take m ++ [x] ++ O.drop m).Perm (s.all.take (k + 1)) := by
                rw [Ht.out]
                exact (ins_perm O x m).trans (List.Perm.append_right _ Hperm.out)
              refine ⟨⟨k + 1, O.take m ++ [x] ++ O.drop m, by omega, by go_num, hlen, ins_sorted Hsort.out Hlow.out Hup.out hm, ?_, lo5, below_chg Hb.out hc5' (fun j hj h => by omega)⟩, by simp [intOf]; omega⟩
              rw [ints_append, ints_append]; exact ho5
        · have hmi : ¬ (m : Int) < (O.length : Int) := by omega
          have hmd : decide ((m : Int) < (O.length : Int)) = false := by simp; omega
          have hup : m = O.length ∨ x ≤ O.getD m 0 := .inl (by omega)
          have Hup := Lib.hid hup
          clear hup
          go_wp2_with fail
          go_quiet (fail)
          go_wp2_with (at_builtin; refine wpList_append_sl (v := .slice (some ⟨wr.heap.size, 0, none⟩) 0 0) (xs := []) (ys := ints (O.drop m)) rfl _ _ rfl tyInts rfl rfl (OwnSl.made (c := #[]) (e := 3) (b := wr.heap.size) (by rw [ob_drewN]; exact ob_alloc_at _ _) RowsOk.nil rfl (by decide)) (HFrom.out _ (Chg.drewN (Chg.alloc (Chg.refl _ _) _) _) _ (by intro hlt b off e; first | omega | (rw [e]; rfl) | (cases e; rfl) | (exfalso; omega))) (ints_ok _) (by simp; omega) ?_; intro v3 w3 ho3 hc3 hloc3)
          all_goals
            have hw3 : Chg (fun _ => False) wr w3 := Chg.trans (S' := fun j => j = wr.heap.size) (by repeat (first | with_reducible exact Chg.refl _ _ | with_reducible exact chg0 | with_reducible refine Chg.drewN ?_ _ | with_reducible refine Chg.drew ?_ | with_reducible refine Chg.alloc ?_ _ | with_reducible refine Chg.setCell ?_ _ _ (by first | (simp; done) | omega | (simp; omega)) | with_reducible refine Chg.setBlock ?_ _ _ (by first | (simp; done) | omega | (simp; omega)) | exact Chg.refl _ _)) (hc3.mono (fun j _ e => (Option.some.inj e).symm)) (fun j hj e => by omega)
            have lo3 : ∀ j, v3.ownBlock = some j → wr.heap.size ≤ j := fun j hj => fresh_of hloc3 (fun k hk => Nat.le_of_eq (Option.some.inj hk)) (by simp) hj
            have c2w := hw3.cell c2r (fun h => h)
            have hcw := hw3.cell hck (fun h => h)
            have sz3 := hw3.size
            have lp3 : p < w3.heap.size := by omega
            have lq3 : q < w3.heap.size := World.block_lt_of_cell? w3 _ hcw
            have ow2 := own_take' (P := fun j => w.heap.size ≤ j ∧ j < wr.heap.size) (Hown.out.chg hw3 (fun _ _ h => h)) m hm (fun j hj => ⟨Hlo.out j hj, Hown.out.lt hj⟩)
            have Own2 := Lib.hid ow2.1
            have Lo2 := Lib.hid ow2.2
            have Lo3 := Lib.hid lo3
            have Ho3 := Lib.hid (show OwnSl w3 3 1 v3 (ints (O.drop m)) from ho3)
            have Hw3 := Lib.hid hw3
            clear hw3 lo3 ow2 ho3 hc3 hloc3 c2r hck
          all_goals try (have hcm : cap2 = m := (by first | assumption | omega); rw [hcm] at Own2 Lo2)
          all_goals
            go_region_law (first
              | (refine step_append_sl (xs := ints (O.take m)) (ys := [[.int .i64 x]]) rfl _ _ rfl tyInts rfl rfl (Own2.out.chg (S := fun _ => False) (by repeat (first | with_reducible exact Chg.refl _ _ | with_reducible exact chg0 | with_reducible refine Chg.drewN ?_ _ | with_reducible refine Chg.drew ?_ | with_reducible refine Chg.alloc ?_ _ | with_reducible refine Chg.setCell ?_ _ _ (by first | (simp; done) | omega | (simp; omega)) | with_reducible refine Chg.setBlock ?_ _ _ (by first | (simp; done) | omega | (simp; omega)) | exact Chg.refl _ _)) (fun _ _ h => h)) (OwnSl.made (e := 3) (c := #[.int .i64 x]) (b := w3.heap.size) (by first | exact ob_alloc_new _ _ _ rfl | (rw [ob_drew]; exact ob_alloc_new _ _ _ rfl) | (rw [ob_drewN]; exact ob_alloc_new _ _ _ rfl)) (ints_ok [x]) rfl (by simp)).slice (ints_ok [x]) (by simp; omega) ?_; intro v4 w4 ho4 hc4 hloc4; have hc4' : Chg (fun j => w.heap.size ≤ j ∧ j < wr.heap.size) w3 w4 := Chg.trans (S' := fun j => w.heap.size ≤ j ∧ j < wr.heap.size) (by repeat (first | with_reducible exact Chg.refl _ _ | with_reducible exact chg0 | with_reducible refine Chg.drewN ?_ _ | with_reducible refine Chg.drew ?_ | with_reducible refine Chg.alloc ?_ _ | with_reducible refine Chg.setCell ?_ _ _ (by first | (simp; done) | omega | (simp; omega)) | with_reducible refine Chg.setBlock ?_ _ _ (by first | (simp; done) | omega | (simp; omega)) | exact Chg.refl _ _)) (hc4.mono (fun j _ e => Lo2.out j e)) (fun _ _ h => h); have lo4 : ∀ j, v4.ownBlock = some j → w.heap.size ≤ j := fun j hj => fresh_of hloc4 (fun k hk => (Lo2.out k hk).1) (by simp <;> omega) hj; have Ho34 := Lib.hid (Ho3.out.chg hc4' (fun j hj e => absurd (Lo3.out j hj) (by omega))))
              | (refine step_append_sl (v := v4) (xs := ints (O.take m) ++ [[.int .i64 x]]) (ys := ints (O.drop m)) rfl _ _ rfl tyInts rfl rfl ho4 Ho34.out.slice (ints_ok _) (by simp; omega) ?_; intro v5 w5 ho5 hc5 hloc5; have lo5 : ∀ j, v5.ownBlock = some j → w.heap.size ≤ j := fun j hj => fresh_of hloc5 lo4 (by have := hc4'.size; omega) hj))
          all_goals (go_wp2_with fail)
          all_goals
            have hc5' : Chg (fun j => w.heap.size ≤ j) wr w5 := (Hw3.out.mono fun _ _ h => h.elim).trans ((hc4'.mono fun _ _ h => h.1).trans (S := fun j => w.heap.size ≤ j) hc5 (fun j _ e => lo4 j e)) (fun _ _ h => h)
            have hlen : (O.take m ++ [x] ++ O.drop m).Perm (s.all.take (k + 1)) := by
              rw [Ht.out]
              exact (ins_perm O x m).trans (List.Perm.append_right _ Hperm.out)
            refine ⟨⟨k + 1, O.take m ++ [x] ++ O.drop m, by omega, by go_num, hlen, ins_sorted Hsort.out Hlow.out Hup.out hm, ?_, lo5, below_chg Hb.out hc5' (fun j hj h => by omega)⟩, by simp [intOf]; omega⟩
            rw [ints_append, ints_append]; exact ho5
    · go_wp2_with fail
      go_ret
      have := Hperm.out
      rw [List.take_of_length_le (by omega)] at this
      refine ⟨u3, rfl, ?_, Hlo.out, Hb.out⟩
      have e : O = s.list := sort_unique this Hsort.out
      rw [← e]; exact Hown.out
end
end Go.Proofs.Ytamidchoghmmgaa
