/-
  What LinesOrder and LinesRoom ask, plainly. No program is named.
-/
import Derived.Test.YtocnhmakgbdbfaaLnM
set_option linter.unusedVariables false
set_option linter.unusedSimpArgs false
namespace Go.Proofs.Ytocnhmakgbdbfaa

/-! ### Blocks of one set, one after the other -/
structure RowUp (s : Lines) (z first : Int) (W i : Nat) : Prop where
  ok : s.Ok
  sets : s.sets = z
  ways : s.ways = (W : Int)
  all : s.all = (List.range' (i - W) (min i W)).map fun j : Nat => first + (j : Int) * z

theorem RowUp.mates {s : Lines} {sets first : Int} {W i : Nat} (h : RowUp s sets first W i) (j : Int) : s.mates (first + j * sets) = s.all := by
  rw [Lines.mates, Lines.row, List.filter_eq_self]
  intro b hb
  rw [h.all] at hb
  obtain ⟨k, _, rfl⟩ := List.mem_map.1 hb
  simp [h.sets, Int.add_mul_emod_self_right]
theorem RowUp.len {s : Lines} {sets first : Int} {W i : Nat} (h : RowUp s sets first W i) : s.all.length = min i W := by
  rw [h.all]; simp
theorem ord_inj {sets first a b : Int} (hs : 1 ≤ sets) (h : first + a * sets = first + b * sets) : a = b := by
  have h1 : a * sets = b * sets := by omega
  exact Int.eq_of_mul_eq_mul_right (by omega) h1
theorem RowUp.hasnt {s : Lines} {sets first : Int} {W i : Nat} (h : RowUp s sets first W i) : s.has (first + (i : Int) * sets) = false := by
  cases hh : s.has (first + (i : Int) * sets) with
  | false => rfl
  | true =>
    rw [Lines.has_iff, h.all] at hh
    obtain ⟨k, hk, e⟩ := List.mem_map.1 hh
    have h1 := ord_inj (by have := h.ok.s1; rw [h.sets] at this; exact this) e
    have h2 := List.mem_range'_1.1 hk
    omega
theorem RowUp.new {sets first w : Int} (h1 : 1 ≤ sets) (h2 : sets ≤ 64) (h3 : 1 ≤ w) (h4 : w ≤ 16) : RowUp (Lines.new sets w) sets first w.toNat 0 := by
  refine ⟨Lines.new_ok _ _, ?_, ?_, by simp [Lines.new]⟩
  · show clampI sets 1 64 = sets
    unfold clampI; omega
  · show clampI w 1 16 = _
    unfold clampI; omega
theorem ord_pos {sets first : Int} (h1 : 1 ≤ sets) (h2 : 0 ≤ first) (j : Nat) : 0 ≤ first + (j : Int) * sets := by
  have := Int.mul_nonneg (show (0 : Int) ≤ j by omega) (show (0 : Int) ≤ sets by omega)
  omega

theorem RowUp.early {s : Lines} {sets first : Int} {W i : Nat} (h : RowUp s sets first W i) (hf : 0 ≤ first) (hi : i < W) :
    s.victim (first + (i : Int) * sets) (-1) = (-1, true) ∧ s.can (first + (i : Int) * sets) = true ∧ RowUp (s.add (first + (i : Int) * sets)) sets first W (i + 1) := by
  have hs : 1 ≤ sets := by have := h.ok.s1; rw [h.sets] at this; exact this
  have hp := ord_pos hs hf i
  have hn := h.hasnt
  have hm := h.mates i
  have hl := h.len
  have hw := h.ways
  have hl2 : ((s.mates (first + (i : Int) * sets)).length : Int) < s.ways := by rw [hm, hl, hw]; omega
  have hc : s.can (first + (i : Int) * sets) = true := by
    rw [Lines.can_iff]
    refine ⟨hp, fun hx => ?_, hl2⟩
    rw [(s.has_iff _).2 hx] at hn; cases hn
  refine ⟨?_, hc, ?_⟩
  · rw [Lines.victim, if_neg (by omega), if_pos (by simp [hl2])]
  · refine ⟨Lines.add_ok h.ok _, ?_, ?_, ?_⟩
    · rw [Lines.add, if_pos hc]; exact h.sets
    · rw [Lines.add, if_pos hc]; exact h.ways
    · rw [Lines.add, if_pos hc]
      show s.all ++ [_] = _
      rw [h.all, show i + 1 - W = i - W by omega, show min (i + 1) W = min i W + 1 by omega, List.range'_1_concat, List.map_append, show i - W + min i W = i by omega]
      rfl

theorem RowUp.late {s : Lines} {sets first : Int} {W i : Nat} (h : RowUp s sets first W i) (hf : 0 ≤ first) (hi : W ≤ i) :
    s.victim (first + (i : Int) * sets) (-1) = (first + ((i : Int) - (W : Int)) * sets, true) ∧ 0 ≤ first + ((i : Int) - (W : Int)) * sets ∧ s.has (first + ((i : Int) - (W : Int)) * sets) = true ∧
    (s.rem (first + ((i : Int) - (W : Int)) * sets)).can (first + (i : Int) * sets) = true ∧ RowUp ((s.rem (first + ((i : Int) - (W : Int)) * sets)).add (first + (i : Int) * sets)) sets first W (i + 1) := by
  have hs : 1 ≤ sets := by have := h.ok.s1; rw [h.sets] at this; exact this
  have hp := ord_pos hs hf i
  have hn := h.hasnt
  have hm := h.mates i
  have hl := h.len
  have hw := h.ways
  have hW : 1 ≤ W := by have := h.ok.w1; omega
  have hp2 := ord_pos hs hf (i - W)
  have e1 : ((i - W : Nat) : Int) = (i : Int) - (W : Int) := by omega
  rw [e1] at hp2
  have hall : s.all = (first + ((i : Int) - (W : Int)) * sets) :: (List.range' (i - W + 1) (W - 1)).map fun j : Nat => first + (j : Int) * sets := by
    rw [h.all, show min i W = (W - 1) + 1 by omega, List.range'_succ, List.map_cons, e1]
  have hhas : s.has (first + ((i : Int) - (W : Int)) * sets) = true := by rw [Lines.has_iff, hall]; exact List.mem_cons_self
  have hrem : (s.rem (first + ((i : Int) - (W : Int)) * sets)).all = (List.range' (i - W + 1) (W - 1)).map fun j : Nat => first + (j : Int) * sets := by
    show s.all.erase _ = _
    rw [hall, List.erase_cons_head]
  have hv : s.victim (first + (i : Int) * sets) (-1) = (first + ((i : Int) - (W : Int)) * sets, true) := by
    rw [Lines.victim, if_neg (by omega), if_neg (by rw [hn, hm, hl, hw]; simp; omega), hm, hall, firstNot, if_neg (by omega)]
  have hc : (s.rem (first + ((i : Int) - (W : Int)) * sets)).can (first + (i : Int) * sets) = true := by
    rw [Lines.can_iff]
    refine ⟨hp, fun hx => ?_, ?_⟩
    · rw [(s.has_iff _).2 (List.mem_of_mem_erase hx)] at hn; cases hn
    · have h1 : ((s.rem (first + ((i : Int) - (W : Int)) * sets)).mates (first + (i : Int) * sets)).length ≤ (s.rem (first + ((i : Int) - (W : Int)) * sets)).all.length := List.length_filter_le _ _
      rw [hrem] at h1
      simp only [List.length_map, List.length_range'] at h1
      show _ < s.ways
      omega
  refine ⟨hv, hp2, hhas, hc, Lines.add_ok (Lines.rem_ok h.ok _) _, ?_, ?_, ?_⟩
  · rw [Lines.add, if_pos hc]; exact h.sets
  · rw [Lines.add, if_pos hc]; exact h.ways
  · rw [Lines.add, if_pos hc]
    show (s.rem _).all ++ [_] = _
    rw [hrem, show i + 1 - W = i - W + 1 by omega, show min (i + 1) W = (W - 1) + 1 by omega, List.range'_1_concat, List.map_append, show i - W + 1 + (W - 1) = i by omega]
    rfl

/-! ### Blocks of other sets play no part -/
structure Room (s t : Lines) (k : Int) : Prop where
  ok : s.Ok
  ok2 : t.Ok
  sets : t.sets = s.sets
  ways : t.ways = s.ways
  all : t.all = s.row k
theorem Room.new (a b k : Int) : Room (Lines.new a b) (Lines.new a b) k := ⟨Lines.new_ok a b, Lines.new_ok a b, rfl, rfl, by simp [Lines.new, Lines.row]⟩
theorem Room.mates {s t : Lines} {k b : Int} (h : Room s t k) (hb : b % s.sets = k) : t.mates b = s.mates b := by
  rw [Lines.mates, Lines.row, h.all, h.sets, hb, Lines.mates, hb, Lines.row, List.filter_filter]
  simp
theorem Room.has {s t : Lines} {k b : Int} (h : Room s t k) (hb : b % s.sets = k) : t.has b = s.has b := by
  rw [← Lines.mates_has, h.mates hb, Lines.mates_has]
theorem Room.can {s t : Lines} {k b : Int} (h : Room s t k) (hb : b % s.sets = k) : t.can b = s.can b := by
  rw [Lines.can, h.has hb, h.mates hb, h.ways]; rfl
theorem Room.both {s t : Lines} {k b : Int} (h : Room s t k) (hb : b % s.sets = k) : Room (s.add b) (t.add b) k := by
  have e := h.can hb
  cases hc : s.can b with
  | true =>
    rw [hc] at e
    rw [Lines.add, Lines.add, if_pos hc, if_pos e]
    refine ⟨Lines.snoc_ok h.ok b hc, Lines.snoc_ok h.ok2 b e, h.sets, h.ways, ?_⟩
    show t.all ++ [b] = _
    rw [row_snoc, if_pos hb.symm, h.all]
  | false =>
    rw [hc] at e
    rw [Lines.add, Lines.add, if_neg (by simp [hc]), if_neg (by simp [e])]
    exact h
theorem Room.one {s t : Lines} {k b : Int} (h : Room s t k) (hb : b % s.sets ≠ k) : Room (s.add b) t k := by
  cases hc : s.can b with
  | true =>
    rw [Lines.add, if_pos hc]
    refine ⟨Lines.snoc_ok h.ok b hc, h.ok2, h.sets, h.ways, ?_⟩
    rw [row_snoc, if_neg (fun e => hb e.symm), h.all]
  | false =>
    rw [Lines.add, if_neg (by simp [hc])]
    exact h
theorem Room.victim {s t : Lines} {k b : Int} (x : Int) (h : Room s t k) (hb : b % s.sets = k) : t.victim b x = s.victim b x := by
  rw [Lines.victim, Lines.victim, h.has hb, h.mates hb, h.ways]

/-! ### How many of each set -/
def cntOf (sets : Int) (D : List Int) (q : Int) : Nat := (D.filter fun b => decide (b % sets = q)).length
theorem cntOf_perm {sets : Int} {D E : List Int} (h : D.Perm E) (q : Int) : cntOf sets D q = cntOf sets E q := (h.filter _).length_eq
theorem cntOf_snoc (sets : Int) (D : List Int) (b q : Int) : cntOf sets (D ++ [b]) q = if q = b % sets then cntOf sets D q + 1 else cntOf sets D q := by
  rw [cntOf, List.filter_append, List.length_append, cntOf]
  by_cases h : q = b % sets
  · rw [if_pos h]; simp [List.filter_cons, h]
  · rw [if_neg h]; simp [List.filter_cons, Ne.symm h]
theorem cntOf_le (sets : Int) (D : List Int) (q : Int) : cntOf sets D q ≤ D.length := List.length_filter_le _ _
theorem cntOf_list (s : Lines) (q : Int) : cntOf s.sets s.list q = (s.row q).length := cntOf_perm (List.mergeSort_perm _ _) q
theorem list_len (s : Lines) : s.list.length = s.all.length := (List.mergeSort_perm _ _).length_eq
end Go.Proofs.Ytocnhmakgbdbfaa
