/-
  The program's lines: Copy.
-/
import Derived.Test.YtamidchoghmmgaaLn4
import Derived.StillTailTactics
namespace Go.Proofs.Ytamidchoghmmgaa
open Go.RowKit Go.Sort
open Go.ChangeMaps (setBlock)
set_option linter.unusedVariables false
set_option linter.unusedSimpArgs false

/-- The lines of some sets alone. -/
def Lines.only (s : Lines) (D : List Int) : Lines := { s with all := s.all.filter fun b => decide (b % s.sets ∈ D) }
theorem only_row (s : Lines) (D : List Int) (k : Int) : (s.only D).row k = if k ∈ D then s.row k else [] := by
  simp only [Lines.row, Lines.only, List.filter_filter]
  by_cases h : k ∈ D
  · rw [if_pos h]
    apply List.filter_congr
    intro b _
    by_cases hb : b % s.sets = k
    · simp [hb, h]
    · simp [hb]
  · rw [if_neg h, List.filter_eq_nil_iff]
    intro b _
    rw [Bool.and_eq_true]
    rintro ⟨h1, h2⟩
    exact h (of_decide_eq_true h1 ▸ of_decide_eq_true h2)
theorem only_ok {s : Lines} (h : s.Ok) (D : List Int) : (s.only D).Ok := by
  refine ⟨h.s1, h.s2, h.w1, h.w2, h.nodup.sublist List.filter_sublist, fun b hb => h.pos b ((List.mem_filter.1 hb).1), fun k => ?_⟩
  rw [only_row]
  have := h.room k
  have := h.w1
  split
  · assumption
  · show ((0 : Nat) : Int) ≤ s.ways
    omega
theorem only_nil (s : Lines) : s.only [] = { s with all := [] } := by
  unfold Lines.only
  congr 1
  rw [List.filter_eq_nil_iff]
  intro b _; simp
theorem new_of_ok {s : Lines} (h : s.Ok) : Lines.new s.sets s.ways = { s with all := [] } := by
  have := h.s1
  have := h.s2
  have := h.w1
  have := h.w2
  unfold Lines.new clampI
  congr 1 <;> omega

section
variable {w : World} {p : Nat} {s : Lines} {F : Nat → Prop}

set_option maxHeartbeats 1000000 in
set_option maxRecDepth 20000 in
theorem Copy_calls (h : LinesAt w p s F) :
    Calls Try.prog 23 #[.pointer (some ⟨p, 0, none⟩)] w fun e w' => ∃ p' F', e = .returned (.pointer (some ⟨p', 0, none⟩)) ∧ LinesAt w' p' s F' ∧ (∀ j, F' j → w.heap.size ≤ j) ∧ Below w.heap.size w w' := by
  obtain ⟨mb, o, f, h, hF, hFl⟩ := h
  have c0 : w.cell? ⟨p, 0, none⟩ = some (.int .i64 s.sets) := cell_ob h.at_ _
  have c1 : w.cell? ⟨p, 1, none⟩ = some (.int .i64 s.ways) := cell_ob h.at_ _
  have H := Lib.hid h
  have Hnew := Lib.hid (new_of_ok h.ok)
  have lm := ob_lt h.map
  have lp := ob_lt h.at_
  have lall : ∀ j, lnFp p mb f j → j < w.heap.size := by
    rintro j (rfl | rfl | ⟨q, u, hq, hj⟩)
    · exact lp
    · exact lm
    · exact (h.rows q u hq).lt hj
  have Lall := Lib.hid lall
  clear h hF hFl lall
  go_enter Try.func23, Try.ntmps23
  go_wp2_with fail
  go_still_tail 8, (by kernel_rfl)
  go_wp2_with fail
  refine (LinesNew_calls s.sets s.ways _).mono ?_
  rintro e w1 ⟨p', F1, rfl, hp', hF1, hb1'⟩
  have hb1 : Below w.heap.size w w1 := below_trans (Chg.below (by repeat (first | with_reducible exact Chg.refl _ _ | with_reducible exact chg0 | with_reducible refine Chg.drewN ?_ _ | with_reducible refine Chg.drew ?_ | with_reducible refine Chg.alloc ?_ _ | with_reducible refine Chg.setCell ?_ _ _ (by first | (simp; done) | omega | (simp; omega)) | with_reducible refine Chg.setBlock ?_ _ _ (by first | (simp; done) | omega | (simp; omega)) | exact Chg.refl _ _))) hb1'
  clear hb1'
  rw [Hnew.out, ← only_nil] at hp'
  have s1 := hb1.size
  have H1 := Lib.hid (H.out.chg (S := fun _ => False) (Chg.of_below hb1) (fun _ _ h => h))
  have c2 : w1.cell? ⟨p, 2, none⟩ = some (.map (some mb)) := cell_ob H1.out.at_ _
  obtain ⟨io, hio, hit⟩ := H1.out.obj.range (P := Try.prog) tyIR mb w1 H1.out.map
  have Hit := Lib.hid hit
  have HF1 := Lib.hid hF1
  have Hp' := Lib.hid hp'
  have Hb1 := Lib.hid hb1
  clear hit hF1 hp' hb1
  go_wp2_with fail
  have hne : w1.heap.size ≠ mb := by omega
  go_loopw [21] (fun _ wr => ∃ (D : List Int) (F2 : Nat → Prop), D.Nodup ∧ IterAt wr w1.heap.size mb o D ∧ LinesIn wr p mb o f s ∧ LinesAt wr p' (s.only D) F2 ∧ (∀ j, F2 j → w.heap.size ≤ j ∧ j ≠ w1.heap.size) ∧ Below w.heap.size w wr) (fun _ W => leftN W w1.heap.size mb)
  case atStart =>
    refine ⟨[], F1, List.nodup_nil, Hit.out, H1.out.chg (S := fun _ => False) (by repeat (first | with_reducible exact Chg.refl _ _ | with_reducible exact chg0 | with_reducible refine Chg.drewN ?_ _ | with_reducible refine Chg.drew ?_ | with_reducible refine Chg.alloc ?_ _ | with_reducible refine Chg.setCell ?_ _ _ (by first | (simp; done) | omega | (simp; omega)) | with_reducible refine Chg.setBlock ?_ _ _ (by first | (simp; done) | omega | (simp; omega)) | exact Chg.refl _ _)) (fun _ _ h => h), Hp'.out.chg (S := fun _ => False) (by repeat (first | with_reducible exact Chg.refl _ _ | with_reducible exact chg0 | with_reducible refine Chg.drewN ?_ _ | with_reducible refine Chg.drew ?_ | with_reducible refine Chg.alloc ?_ _ | with_reducible refine Chg.setCell ?_ _ _ (by first | (simp; done) | omega | (simp; omega)) | with_reducible refine Chg.setBlock ?_ _ _ (by first | (simp; done) | omega | (simp; omega)) | exact Chg.refl _ _)) (fun _ _ h => h), fun j hj => ⟨HF1.out j hj, ?_⟩, below_trans Hb1.out (Chg.below (by repeat (first | with_reducible exact Chg.refl _ _ | with_reducible exact chg0 | with_reducible refine Chg.drewN ?_ _ | with_reducible refine Chg.drew ?_ | with_reducible refine Chg.alloc ?_ _ | with_reducible refine Chg.setCell ?_ _ _ (by first | (simp; done) | omega | (simp; omega)) | with_reducible refine Chg.setBlock ?_ _ _ (by first | (simp; done) | omega | (simp; omega)) | exact Chg.refl _ _)))⟩
    obtain ⟨_, _, _, _, _, h3⟩ := Hp'.out
    have := h3 j hj; omega
  case round =>
    obtain ⟨D, F2, hD, hi, hl, hq, hF2, hb⟩ := hrel
    have sr := hb.size
    have lir : w1.heap.size < wr.heap.size := by obtain ⟨_, _, _, _, _, _, h, _⟩ := hi; exact ob_lt h
    have Hi := Lib.hid hi
    have Hl := Lib.hid hl
    have Hq := Lib.hid hq
    have HF2 := Lib.hid hF2
    have Hb := Lib.hid hb
    clear hi hl hq hF2 hb Hit Hp' HF1 Hb1
    rcases IterAt.next (P := Try.prog) H.out.obj Hi.out hne with ⟨hdone, hrun⟩ | ⟨k, v, w2, hfk, hkD, hrun, hc, hsz, hit2, io2, hio2, hent⟩
    · have hperm := H.out.whole D hD hdone
      clear hdone hio
      go_wp2_with fail
      go_ret
      refine ⟨p', F2, rfl, ?_, fun j hj => (HF2.out j hj).1, Hb.out⟩
      have : s.only D = s := by
        unfold Lines.only
        congr 1
        rw [List.filter_eq_self]
        intro b hb
        have := hperm.mem_iff.2 hb
        obtain ⟨l, hl, hbl⟩ := List.mem_flatten.1 this
        obtain ⟨k, hk, rfl⟩ := List.mem_map.1 hl
        simp only [Lines.row, List.mem_filter, decide_eq_true_eq] at hbl
        rw [decide_eq_true_eq, hbl.2]; exact hk
      rw [this] at Hq
      exact Hq.out
    · have hent1 := fun W h1 h2 => (hent W h1 h2).1
      have Hent := Lib.hid (fun W h1 h2 => (hent W h1 h2).2)
      have hm2 : ob w2 mb = some o := hc.ob Hl.out.map (Ne.symm hne)
      have hD' : (D ++ [k]).Nodup := by rw [List.nodup_append]; exact ⟨hD, by simp, fun a ha c hc => by simp at hc; subst hc; exact fun e => hkD (e ▸ ha)⟩
      have hov : OwnSl w2 3 1 v (ints (s.row k)) := (Hl.out.rows k v hfk).chg hc fun j hj e => by
        have := (H.out.rows k v hfk).lt hj; omega
      have hq2 : LinesAt w2 p' (s.only D) F2 := Hq.out.chg hc fun j hj e => (HF2.out j hj).2 e
      obtain ⟨mb', o', f', hin, hinF, hinL⟩ := hq2
      have c2' : w2.cell? ⟨p', 2, none⟩ = some (.map (some mb')) := cell_ob hin.at_ _
      have hm' := hin.map
      have lp' := ob_lt hin.at_
      have lm' := ob_lt hm'
      have hrl : (s.row k).length ≤ 1000000 := by have := H.out.ok.room k; have := H.out.ok.w2; omega
      have Hov := Lib.hid hov
      obtain ⟨g, hg⟩ := Classical.axiomOfChoice (fun v : Value => hin.obj.update tyIR k v mb')
      have Hg := Lib.hid (fun v => (hg v).1)
      have hmu : ∀ (v : Value) (W : World), ob W mb' = some o' → (Instr.mapUpdate 40 (.map (some mb')) (.int .i64 k) v).run Try.prog W = .ok () (setBlock W mb' (g v)) := fun v => (hg v).2
      have Hin := Lib.hid hin
      have HinF := Lib.hid hinF
      have HinL := Lib.hid hinL
      have HkD := Lib.hid hkD
      clear hent hov hfk hio hkD hg hin hinF hinL
      go_wp2_with fail
      go_region_law (go_simp; go_at_call 34; refine (Clone_calls (s.row k) v _ (Hov.out.slice.below (Chg.below (by repeat (first | with_reducible exact Chg.refl _ _ | with_reducible exact chg0 | with_reducible refine Chg.drewN ?_ _ | with_reducible refine Chg.drew ?_ | with_reducible refine Chg.alloc ?_ _ | with_reducible refine Chg.setCell ?_ _ _ (by first | (simp; done) | omega | (simp; omega)) | with_reducible refine Chg.setBlock ?_ _ _ (by first | (simp; done) | omega | (simp; omega)) | exact Chg.refl _ _)))) hrl).mono ?_; rintro e w5 ⟨v5, rfl, ho5, hlo5, hb5⟩; have hsz5 := hb5.size; have c2'' : w5.cell? ⟨p', 2, none⟩ = some (.map (some mb')) := (by rw [hb5.cell (by simp; omega)]; simp [go_sem, c2']); have hm5 : ob w5 mb' = some o' := (Chg.of_below (S := fun _ => False) hb5).ob (by simp [go_sem, hm']) (fun h => h))
      all_goals
        go_wp2_with fail
        have hch : Chg (fun j => (rowV f' k).ownBlock = some j) w2 w5 := Chg.of_below (below_trans (Chg.below (by repeat (first | with_reducible exact Chg.refl _ _ | with_reducible exact chg0 | with_reducible refine Chg.drewN ?_ _ | with_reducible refine Chg.drew ?_ | with_reducible refine Chg.alloc ?_ _ | with_reducible refine Chg.setCell ?_ _ _ (by first | (simp; done) | omega | (simp; omega)) | with_reducible refine Chg.setBlock ?_ _ _ (by first | (simp; done) | omega | (simp; omega)) | exact Chg.refl _ _))) hb5)
        obtain ⟨F3, hat, hmv⟩ := lines_put (s' := s.only (D ++ [k])) (o2 := g v5) Hin.out HinF.out HinL.out k v5 rfl rfl
          (fun q hq => by rw [only_row, only_row]; simp [hq]) (only_ok H.out.ok _) (by rw [only_row, if_pos (by simp)]; exact ho5) hch (.inr fun j hj => by have := hlo5 j hj; simpa using this) (Hg.out v5)
        have hnr : ¬ F2 w1.heap.size := fun h => (HF2.out _ h).2 rfl
        have hnm : ¬ F2 mb := fun h => by have := (HF2.out _ h).1; omega
        refine ⟨⟨D ++ [k], F3, hD', hit2.chg hmv.chg hnr hnm, ?_, hat, ?_, ?_⟩, Hent.out _ (hmv.chg.ob hio2 hnr) (hmv.chg.ob hm2 hnm)⟩
        · refine (Hl.out.chg hc fun j hj e => ?_).chg hmv.chg fun j hj e => ?_
          · have := Lall.out j hj; omega
          · have := Lall.out j hj
            have := (HF2.out j e).1; omega
        · intro j hj
          rcases hmv.fresh j hj with h | h
          · exact HF2.out j h
          · omega
        · exact below_chg (below_chg Hb.out hc fun j hj e => by omega) hmv.chg fun j hj e => by have := (HF2.out j e).1; omega
end
end Go.Proofs.Ytamidchoghmmgaa
