/-
  What the statements on lines ask, plainly. No program is named.
-/
import Derived.Test.YtdmkonkkiodcnaaLnM
namespace Go.Proofs.Ytdmkonkkiodcnaa

theorem firstNot_no (x : Int) : ∀ (l : List Int), (firstNot x l).2 = false → (firstNot x l).1 = -1 ∧ ∀ y ∈ l, y = x
  | [], _ => ⟨rfl, by simp⟩
  | v :: l, h => by
    rw [firstNot] at h ⊢
    by_cases hv : v = x
    · rw [if_pos hv] at h ⊢
      obtain ⟨h1, h2⟩ := firstNot_no x l h
      exact ⟨h1, fun y hy => by rcases List.mem_cons.1 hy with rfl | hy; exact hv; exact h2 y hy⟩
    · rw [if_neg hv] at h; cases h
theorem firstNot_yes (x : Int) : ∀ (l : List Int), (firstNot x l).2 = true → (firstNot x l).1 ≠ x ∧ (firstNot x l).1 ∈ l
  | [], h => by cases h
  | v :: l, h => by
    rw [firstNot] at h ⊢
    by_cases hv : v = x
    · rw [if_pos hv] at h ⊢
      obtain ⟨h1, h2⟩ := firstNot_yes x l h
      exact ⟨h1, List.mem_cons_of_mem _ h2⟩
    · rw [if_neg hv]
      exact ⟨hv, List.mem_cons_self⟩

theorem victim_facts {l : Lines} (h : l.Ok) (b x : Int) :
    ((l.victim b x).2 = false → (l.victim b x).1 = -1 ∧ l.has b = false ∧ l.can b = false ∧ (b < 0 ∨ l.has x = true)) ∧
    ((l.victim b x).2 = true → l.has b = true → (l.victim b x).1 = -1) ∧
    ((l.victim b x).2 = true → l.has b = false → l.can b = true → (l.victim b x).1 = -1) ∧
    ((l.victim b x).2 = true → l.has b = false → l.can b = false → (l.victim b x).1 ≠ x ∧ l.has (l.victim b x).1 = true ∧ (l.rem (l.victim b x).1).can b = true) := by
  by_cases q1 : b < 0
  · have hv : l.victim b x = (-1, false) := by rw [Lines.victim, if_pos q1]
    have hb : l.has b = false := by
      cases hh : l.has b with
      | false => rfl
      | true => have := h.pos b ((l.has_iff b).1 hh); omega
    have hc : l.can b = false := by simp [Lines.can, q1]
    rw [hv]
    exact ⟨fun _ => ⟨rfl, hb, hc, .inl q1⟩, (fun h => by cases h), (fun h => by cases h), (fun h => by cases h)⟩
  · have hv : l.victim b x = if l.has b || decide (((l.mates b).length : Int) < l.ways) then (-1, true) else firstNot x (l.mates b) := by rw [Lines.victim, if_neg q1]
    cases hh : l.has b with
    | true =>
      rw [hh, Bool.true_or, if_pos rfl] at hv
      rw [hv]
      exact ⟨fun h => (by cases h), fun _ _ => rfl, fun _ h => (by cases h), fun _ h => (by cases h)⟩
    | false =>
      rw [hh, Bool.false_or] at hv
      by_cases q2 : ((l.mates b).length : Int) < l.ways
      · rw [if_pos (by simpa using q2)] at hv
        rw [hv]
        refine ⟨fun h => (by cases h), fun _ _ => rfl, fun _ _ _ => rfl, fun _ _ hc => ?_⟩
        have : l.can b = true := (l.can_iff b).2 ⟨by omega, (fun hm => by rw [(l.has_iff b).2 hm] at hh; cases hh), q2⟩
        rw [this] at hc; cases hc
      · rw [if_neg (by simpa using q2)] at hv
        have hc : l.can b = false := by
          cases hcc : l.can b with
          | false => rfl
          | true => exact absurd ((l.can_iff b).1 hcc).2.2 q2
        rw [hv]
        refine ⟨fun hn => ?_, fun _ h => (by cases h), (fun _ _ h => by rw [hc] at h; cases h), fun hy _ _ => ?_⟩
        · obtain ⟨h1, h2⟩ := firstNot_no x _ hn
          refine ⟨h1, rfl, hc, .inr ?_⟩
          have hw := h.w1
          have hl : 0 < (l.mates b).length := by omega
          obtain ⟨y, hy⟩ := List.exists_mem_of_length_pos hl
          rw [← h2 y hy, Lines.has_iff]
          exact (List.mem_filter.1 hy).1
        · obtain ⟨h1, h2⟩ := firstNot_yes x _ hy
          obtain ⟨h3, h4⟩ := List.mem_filter.1 h2
          refine ⟨h1, (l.has_iff _).2 h3, ?_⟩
          rw [Lines.can_iff]
          refine ⟨by omega, fun hm => ?_, ?_⟩
          · have := List.mem_of_mem_erase hm
            rw [(l.has_iff b).2 this] at hh; cases hh
          · show (((l.rem (firstNot x (l.mates b)).1).row (b % l.sets)).length : Int) < l.ways
            have e : b % l.sets = (firstNot x (l.mates b)).1 % l.sets := (of_decide_eq_true h4).symm
            rw [row_erase l h.nodup, if_pos e]
            have h5 := List.length_erase_of_mem h2
            have h6 := List.length_pos_of_mem h2
            have h7 := h.room (b % l.sets)
            have h8 : l.mates b = l.row (b % l.sets) := rfl
            rw [h8] at h5 h6 ⊢
            omega
end Go.Proofs.Ytdmkonkkiodcnaa
