/-
  What the statements on lines ask, plainly. No program is named.
-/
import Derived.Test.YtamidchoghmmgaaLnM
namespace Go.Proofs.Ytamidchoghmmgaa

theorem firstNot_no (x : Int) : ∀ (l : List Int), (firstNot x l).2 = false → (firstNot x l).1 = -1 ∧ ∀ y ∈ l, y = x
  | [], _ => ⟨rfl, by simp⟩
  | v :: l, h => by
    rw [firstNot] at h ⊢
    by_cases hv : v = x
    · rw [if_pos hv] at h ⊢
      obtain ⟨h1, h2⟩ := firstNot_no x l h
      exact ⟨h1, fun y hy => by rcases List.mem_cons.1 hy with rfl | hy; exact hv; exact h2 y hy⟩
    · rw [if_neg hv] at h; cases h
theorem firstNot_yes (x : Int) : ∀ (l : List Int), (firstNot x l).2 = true → (firstNot x l).1 ≠ x ∧ (firstNot x l).1 ∈ l
  | [], h => by cases h
  | v :: l, h => by
    rw [firstNot] at h ⊢
    by_cases hv : v = x
    · rw [if_pos hv] at h ⊢
      obtain ⟨h1, h2⟩ := firstNot_yes x l h
      exact ⟨h1, List.mem_cons_of_mem _ h2⟩
    · rw [if_neg hv]
      exact ⟨hv, List.mem_cons_self⟩

theorem victim_facts {l : Lines} (h : l.Ok) (b x : Int) :
    ((l.victim b x).2 = false → (l.victim b x).1 = -1 ∧ l.has b = false ∧ l.can b = false ∧ (b < 0 ∨ l.has x = true)) ∧
    ((l.victim b x).2 = true → l.has b = true → (l.victim b x).1 = -1) ∧
    ((l.victim b x).2 = true → l.has b = false → l.can b = true → (l.victim b x).1 = -1) ∧
    ((l.victim b x).2 = true → l.has b = false → l.can b = false → (l.victim b x).1 ≠ x ∧ l.has (l.victim b x).1 = true ∧ (l.rem (l.victim b x).1).can b = true) := by
  by_cases q1 : b < 0
  · have hv : l.victim b x = (-1, false) := by rw [Lines.victim, if_pos q1]
    have hb : l.has b = false := by
      cases hh : l.has b with
      | false => rfl
      | true => have := h.pos b ((l.has_iff b).1 hh); omega
    have hc : l.can b = false := by simp [Lines.can, q1]
    rw [hv]
    exact ⟨fun _ => ⟨rfl, hb, hc, .inl q1⟩, (fun h => by cases h), (fun h => by cases h), (fun h => by cases h)⟩
  · have hv : l.victim b x = if l.has b || decide (((l.mates b).length : Int) < l.ways) then (-1, true) else firstNot x (l.mates b) := by rw [Lines.victim, if_neg q1]
    cases hh : l.has b with
    | true =>
      rw [hh, Bool.true_or, if_pos rfl] at hv
      rw [hv]
      exact ⟨fun h => (by cases h), fun _ _ => rfl, fun _ h => (by cases h), fun _ h => (by cases h)⟩
    | false =>
      rw [hh, Bool.false_or] at hv
      by_cases q2 : ((l.mates b).length : Int) < l.ways
      · rw [if_pos (by simpa using q2)] at hv
        rw [hv]
        refine ⟨fun h => (by cases h), fun _ _ => rfl, fun _ _ _ => rfl, fun _ _ hc => ?_⟩
        have : l.can b = true := (l.can_iff b).2 ⟨by omega, (fun hm => by rw [(l.has_iff b).2 hm] at hh; cases hh), q2⟩
        rw [this] at hc; cases hc
      · rw [if_neg (by simpa using q2)] at hv
        have hc : l.can b = false := by
          cases hcc : l.can b with
          | false => rfl
          | true => exact absurd ((l.can_iff b).1 hcc).2.2 q2
        rw [hv]
        refine ⟨fun hn => ?_, fun _ h => (by cases h), (fun _ _ h => by rw [hc] at h; cases h), fun hy _ _ => ?_⟩
        · obtain ⟨h1, h2⟩ := firstNot_no x _ hn
          refine ⟨h1, rfl, hc, .inr ?_⟩
          have hw := h.w1
          have hl : 0 < (l.mates b).length := by omega
          obtain ⟨y, hy⟩ := List.exists_mem_of_length_pos hl
          rw [← h2 y hy, Lines.has_iff]
          exact (List.mem_filter.1 hy).1
        · obtain ⟨h1, h2⟩ := firstNot_yes x _ hy
          obtain ⟨h3, h4⟩ := List.mem_filter.1 h2
          refine ⟨h1, (l.has_iff _).2 h3, ?_⟩
          rw [Lines.can_iff]
          refine ⟨by omega, fun hm => ?_, ?_⟩
          · have := List.mem_of_mem_erase hm
            rw [(l.has_iff b).2 this] at hh; cases hh
          · show (((l.rem (firstNot x (l.mates b)).1).row (b % l.sets)).length : Int) < l.ways
            have e : b % l.sets = (firstNot x (l.mates b)).1 % l.sets := (of_decide_eq_true h4).symm
            rw [row_erase l h.nodup, if_pos e]
            have h5 := List.length_erase_of_mem h2
            have h6 := List.length_pos_of_mem h2
            have h7 := h.room (b % l.sets)
            have h8 : l.mates b = l.row (b % l.sets) := rfl
            rw [h8] at h5 h6 ⊢
            omega

def headOf : List Int → Int × Bool
  | [] => (-1, false)
  | y :: _ => (y, true)
theorem firstNot_neg (l : List Int) (h : ∀ b ∈ l, 0 ≤ b) : firstNot (-1) l = headOf l := by
  cases l with
  | nil => rfl
  | cons y t => rw [firstNot, if_neg (by have := h y List.mem_cons_self; omega)]; rfl
theorem use_row {l : Lines} (h : l.Ok) (b k : Int) (hb : l.has b = true) : (l.use b).row k = if k = b % l.sets then (l.row k).erase b ++ [b] else l.row k := by
  have e : l.use b = { l.rem b with all := (l.rem b).all ++ [b] } := by rw [Lines.use, if_pos hb]; rfl
  rw [e, row_snoc, row_erase l h.nodup]
  show (if k = b % l.sets then _ else _) = _
  split
  · rfl
  · rfl

/-- A line that was just used doesn't go for another one's. -/
theorem use_facts {l : Lines} (h : l.Ok) (a b : Int) (hb : l.has b = true) :
    ((l.victim a (-1)).1 ≠ b → ((l.use b).victim a (-1)).1 = (l.victim a (-1)).1) ∧
    ((l.victim a (-1)).1 = b → ((l.use b).victim a (-1)).2 = true ∧ (((l.use b).victim a b).2 = true → ((l.use b).victim a (-1)).1 = ((l.use b).victim a b).1) ∧ (((l.use b).victim a b).2 = false → ((l.use b).victim a (-1)).1 = (l.victim a (-1)).1)) := by
  have hm := (l.has_iff b).1 hb
  have hb0 := h.pos b hm
  have hhas : (l.use b).has a = l.has a := by
    rw [Bool.eq_iff_iff, Lines.has_iff, Lines.has_iff, Lines.use, if_pos hb]
    show a ∈ l.all.erase b ++ [b] ↔ _
    rw [h.nodup.erase_eq_filter]
    by_cases e : a = b
    · subst e; simp [hm]
    · simp [e]
  have hsets : (l.use b).sets = l.sets := by rw [Lines.use, if_pos hb]
  have hways : (l.use b).ways = l.ways := by rw [Lines.use, if_pos hb]
  have hrow := use_row h b (a % l.sets) hb
  have hmates : (l.use b).mates a = (l.use b).row (a % l.sets) := by rw [Lines.mates, hsets]
  have hlen : ((l.use b).mates a).length = (l.mates a).length := by
    rw [hmates, hrow]
    split
    · rename_i e
      have : b ∈ l.row (a % l.sets) := by rw [e]; exact (l.mem_mates b).2 hm
      have h1 := List.length_erase_of_mem this
      have h2 := List.length_pos_of_mem this
      have h3 : l.mates a = l.row (a % l.sets) := rfl
      rw [h3, List.length_append, h1]; simp; omega
    · rfl
  have hv : ∀ x, l.victim a x = if a < 0 then (-1, false) else if l.has a || decide (((l.mates a).length : Int) < l.ways) then (-1, true) else firstNot x (l.mates a) := fun x => rfl
  have hu : ∀ x, (l.use b).victim a x = if a < 0 then (-1, false) else if l.has a || decide (((l.mates a).length : Int) < l.ways) then (-1, true) else firstNot x ((l.use b).mates a) := fun x => by
    rw [Lines.victim, hhas, hlen, hways]
  simp only [hv, hu]
  by_cases q1 : a < 0
  · simp only [if_pos q1]
    exact ⟨fun _ => trivial, fun e => by omega⟩
  simp only [if_neg q1]
  cases hc : (l.has a || decide (((l.mates a).length : Int) < l.ways)) with
  | true =>
    simp only [if_true]
    exact ⟨fun _ => trivial, fun e => by omega⟩
  | false =>
    simp only [Bool.false_eq_true, if_false]
    have hpos : ∀ y ∈ l.mates a, 0 ≤ y := fun y hy => h.pos y (List.mem_filter.1 hy).1
    have hpos' : ∀ y ∈ (l.use b).mates a, 0 ≤ y := fun y hy => (Lines.use_ok h b).pos y (List.mem_filter.1 hy).1
    rw [firstNot_neg _ hpos, firstNot_neg _ hpos']
    have hr : l.mates a = l.row (a % l.sets) := rfl
    have hnd : (l.mates a).Nodup := h.nodup.sublist List.filter_sublist
    rw [hmates, hrow, ← hr]
    have hne : 0 < (l.mates a).length := by
      have := h.w1
      simp only [Bool.or_eq_false_iff, decide_eq_false_iff_not] at hc
      omega
    generalize hM : l.mates a = M at *
    cases M with
    | nil => simp at hne
    | cons y t =>
      by_cases e : a % l.sets = b % l.sets
      · simp only [if_pos e]
        by_cases ey : y = b
        · subst ey
          simp only [List.erase_cons_head]
          refine ⟨fun h => absurd rfl h, fun _ => ?_⟩
          cases t with
          | nil => simp [firstNot, headOf]
          | cons z t =>
            have : z ≠ y := fun e => by
              subst e
              have := (List.nodup_cons.1 hnd).1
              simp at this
            simp [firstNot, headOf, this]
        · have : (y :: t).erase b = y :: t.erase b := List.erase_cons_tail (by simpa using ey)
          rw [this]
          exact ⟨fun _ => rfl, fun e => absurd e ey⟩
      · simp only [if_neg e]
        refine ⟨fun _ => trivial, fun ey => ?_⟩
        have ey' : y = b := ey
        have : y ∈ l.mates a := by rw [hM]; exact List.mem_cons_self
        have h2 := (List.mem_filter.1 this).2
        rw [decide_eq_true_eq] at h2
        exact absurd (by rw [← h2, ey']) e
end Go.Proofs.Ytamidchoghmmgaa
