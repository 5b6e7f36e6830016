/-
  Lines, plainly: the blocks that have a line, the one that was used longest ago first. No program is named.
-/
import Derived.Test.YtamidchoghmmgaaJ3
import Derived.Lib.Slices
namespace Go.Proofs.Ytamidchoghmmgaa
open Go.RowKit

structure Lines where
  sets : Int
  ways : Int
  all : List Int

def clampI (n lo hi : Int) : Int := max (min n hi) lo
theorem clampI_in (n lo hi : Int) (h : lo ≤ hi) : lo ≤ clampI n lo hi ∧ clampI n lo hi ≤ hi := by unfold clampI; omega
def Lines.new (s w : Int) : Lines := ⟨clampI s 1 64, clampI w 1 16, []⟩
def Lines.row (l : Lines) (k : Int) : List Int := l.all.filter fun b => decide (b % l.sets = k)
def Lines.mates (l : Lines) (b : Int) : List Int := l.row (b % l.sets)
def Lines.has (l : Lines) (b : Int) : Bool := l.all.contains b
def Lines.can (l : Lines) (b : Int) : Bool := !(decide (b < 0) || l.has b || decide (l.ways ≤ ((l.mates b).length : Int)))
def Lines.add (l : Lines) (b : Int) : Lines := if l.can b then { l with all := l.all ++ [b] } else l
def Lines.rem (l : Lines) (b : Int) : Lines := { l with all := l.all.erase b }
def Lines.use (l : Lines) (b : Int) : Lines := if l.has b then { l with all := l.all.erase b ++ [b] } else l
def firstNot (x : Int) : List Int → Int × Bool
  | [] => (-1, false)
  | v :: l => if v = x then firstNot x l else (v, true)
def Lines.victim (l : Lines) (b pinned : Int) : Int × Bool :=
  if b < 0 then (-1, false) else if l.has b || decide (((l.mates b).length : Int) < l.ways) then (-1, true) else firstNot pinned (l.mates b)
def Lines.list (l : Lines) : List Int := l.all.mergeSort fun x y => decide (x ≤ y)

structure Lines.Ok (l : Lines) : Prop where
  s1 : 1 ≤ l.sets
  s2 : l.sets ≤ 64
  w1 : 1 ≤ l.ways
  w2 : l.ways ≤ 16
  nodup : l.all.Nodup
  pos : ∀ b ∈ l.all, 0 ≤ b
  room : ∀ k, ((l.row k).length : Int) ≤ l.ways

theorem Lines.new_ok (s w : Int) : (Lines.new s w).Ok := by
  have h1 := clampI_in s 1 64 (by decide)
  have h2 := clampI_in w 1 16 (by decide)
  exact ⟨h1.1, h1.2, h2.1, h2.2, List.nodup_nil, fun b hb => by simp [Lines.new] at hb, fun k => by simp [Lines.new, Lines.row]; omega⟩

theorem Lines.has_iff (l : Lines) (b : Int) : l.has b = true ↔ b ∈ l.all := by simp [Lines.has]
theorem Lines.mates_has (l : Lines) (b : Int) : (l.mates b).contains b = l.has b := by
  rw [Bool.eq_iff_iff, Lines.has_iff]
  simp [Lines.mates, Lines.row]
theorem Lines.mem_mates (l : Lines) (b : Int) : b ∈ l.mates b ↔ b ∈ l.all := by simp [Lines.mates, Lines.row]

theorem row_snoc (l : Lines) (b k : Int) : Lines.row { l with all := l.all ++ [b] } k = if k = b % l.sets then l.row k ++ [b] else l.row k := by
  simp only [Lines.row, List.filter_append, List.filter_cons, List.filter_nil]
  by_cases h : k = b % l.sets
  · rw [if_pos h, if_pos (by simp [h])]
  · rw [if_neg h, if_neg (by simp; exact fun e => h e.symm)]; simp
theorem row_erase (l : Lines) (hn : l.all.Nodup) (b k : Int) : (l.rem b).row k = if k = b % l.sets then (l.row k).erase b else l.row k := by
  simp only [Lines.row, Lines.rem]
  rw [hn.erase_eq_filter, List.filter_filter]
  by_cases h : k = b % l.sets
  · rw [if_pos h, List.Nodup.erase_eq_filter (show List.Nodup (l.all.filter _) from List.Pairwise.filter _ hn), List.filter_filter]
    apply List.filter_congr
    intro x _
    exact Bool.and_comm _ _
  · rw [if_neg h]
    apply List.filter_congr
    intro x hx
    by_cases hx' : x % l.sets = k
    · have : x ≠ b := fun e => h (by rw [← hx', e])
      simp [hx', this]
    · simp [hx']

theorem Lines.rem_ok {l : Lines} (h : l.Ok) (b : Int) : (l.rem b).Ok := by
  refine ⟨h.s1, h.s2, h.w1, h.w2, h.nodup.erase b, fun x hx => h.pos x (List.mem_of_mem_erase hx), fun k => ?_⟩
  rw [row_erase l h.nodup]
  have := h.room k
  split
  · have := (l.row k).erase_sublist (a := b) |>.length_le
    show _ ≤ l.ways
    omega
  · exact this
theorem Lines.can_iff (l : Lines) (b : Int) : l.can b = true ↔ 0 ≤ b ∧ b ∉ l.all ∧ ((l.mates b).length : Int) < l.ways := by
  simp [Lines.can, Lines.has, and_assoc]
theorem Lines.snoc_ok {l : Lines} (h : l.Ok) (b : Int) (hb : l.can b = true) : Lines.Ok { l with all := l.all ++ [b] } := by
  obtain ⟨h1, h2, h3⟩ := (l.can_iff b).1 hb
  refine ⟨h.s1, h.s2, h.w1, h.w2, ?_, ?_, fun k => ?_⟩
  · rw [List.nodup_append]
    exact ⟨h.nodup, by simp, fun a ha c hc => by simp at hc; subst hc; exact fun e => h2 (e ▸ ha)⟩
  · intro x hx
    rcases List.mem_append.1 hx with hx | hx
    · exact h.pos x hx
    · simp at hx; omega
  · rw [row_snoc]
    have := h.room k
    show _ ≤ l.ways
    split
    · rename_i e
      subst e
      simp only [List.length_append, List.length_singleton, Int.natCast_add]
      have : l.mates b = l.row (b % l.sets) := rfl
      rw [← this]; omega
    · exact this
theorem Lines.add_ok {l : Lines} (h : l.Ok) (b : Int) : (l.add b).Ok := by
  unfold Lines.add
  split
  · exact snoc_ok h b (by assumption)
  · exact h
theorem Lines.can_rem {l : Lines} (h : l.Ok) (b : Int) (hb : l.has b = true) : (l.rem b).can b = true := by
  rw [Lines.has_iff] at hb
  refine ((l.rem b).can_iff b).2 ⟨h.pos b hb, ?_, ?_⟩
  · show b ∉ l.all.erase b
    rw [h.nodup.erase_eq_filter]; simp
  · show (((l.rem b).row (b % l.sets)).length : Int) < l.ways
    rw [row_erase l h.nodup, if_pos rfl]
    have h1 := h.room (b % l.sets)
    have h2 : b ∈ l.row (b % l.sets) := (l.mem_mates b).2 hb
    have h3 := List.length_erase_of_mem h2
    have h4 := List.length_pos_of_mem h2
    omega
theorem Lines.use_eq {l : Lines} (h : l.Ok) (b : Int) : l.use b = if l.has b then (l.rem b).add b else l := by
  unfold Lines.use
  split
  · rename_i hb
    rw [Lines.add, if_pos (Lines.can_rem h b hb)]
    rfl
  · rfl
theorem Lines.use_ok {l : Lines} (h : l.Ok) (b : Int) : (l.use b).Ok := by
  rw [Lines.use_eq h]
  split
  · exact Lines.add_ok (Lines.rem_ok h b) b
  · exact h
theorem Lines.rem_none {l : Lines} (b : Int) (hb : l.has b = false) : l.rem b = l := by
  have : b ∉ l.all := fun hm => by rw [(l.has_iff b).2 hm] at hb; cases hb
  unfold Lines.rem
  rw [List.erase_of_not_mem this]

/-! ### Places -/
theorem idxFrom_at (x : Int) : ∀ (l : List Int) (i : Nat), Lib.idxFrom l x i = if x ∈ l then ((i + l.idxOf x : Nat) : Int) else -1
  | [], i => by simp [Lib.idxFrom]
  | z :: l, i => by
    rw [Lib.idxFrom]
    by_cases hz : z = x
    · subst hz; simp
    · rw [if_neg hz, idxFrom_at x l (i + 1), List.idxOf_cons]
      have hz' : (z == x) = false := by simpa using hz
      simp only [List.mem_cons, hz', cond_false]
      have : (x = z ∨ x ∈ l) ↔ x ∈ l := ⟨fun h => h.elim (fun e => absurd e.symm hz) id, .inr⟩
      simp only [this]
      split
      · congr 1; omega
      · rfl
theorem idxOf_at (x : Int) (l : List Int) : Lib.idxOf l x = if x ∈ l then (l.idxOf x : Int) else -1 := by
  rw [Lib.idxOf, idxFrom_at]; simp
theorem eraseIdx_at (x : Int) : ∀ (l : List Int), x ∈ l → l.eraseIdx (l.idxOf x) = l.erase x
  | [], h => by simp at h
  | z :: l, h => by
    rw [List.idxOf_cons, List.erase_cons]
    by_cases hz : z = x
    · subst hz; simp
    · have hz' : (z == x) = false := by simpa using hz
      simp only [hz', cond_false, Bool.false_eq_true, if_false]
      rw [List.eraseIdx_cons_succ, eraseIdx_at x l ((List.mem_cons.1 h).elim (fun e => absurd e.symm hz) id)]

/-! ### Sorted lists -/
theorem sort_perm {l l' : List Int} (h : l.Perm l') : (l.mergeSort fun x y => decide (x ≤ y)) = l'.mergeSort fun x y => decide (x ≤ y) := by
  have s : ∀ l : List Int, List.Pairwise (fun a b => a ≤ b) (l.mergeSort fun x y => decide (x ≤ y)) := fun l => by
    have := List.pairwise_mergeSort (le := fun x y : Int => decide (x ≤ y)) (by intro a b c h1 h2; simp at h1 h2 ⊢; omega) (by intro a b; simp; omega) l
    simpa using this
  exact List.Perm.eq_of_pairwise (le := fun a b => a ≤ b) (fun a b _ _ h1 h2 => by omega) (s l) (s l') ((List.mergeSort_perm _ _).trans (h.trans (List.mergeSort_perm _ _).symm))
theorem sort_sorted (l : List Int) : List.Pairwise (fun a b => a ≤ b) (l.mergeSort fun x y => decide (x ≤ y)) := by
  have := List.pairwise_mergeSort (le := fun x y : Int => decide (x ≤ y)) (by intro a b c h1 h2; simp at h1 h2 ⊢; omega) (by intro a b; simp; omega) l
  simpa using this
theorem sort_unique {l s : List Int} (h : s.Perm l) (hs : List.Pairwise (fun a b => a ≤ b) s) : s = l.mergeSort fun x y => decide (x ≤ y) :=
  List.Perm.eq_of_pairwise (le := fun a b => a ≤ b) (fun a b _ _ h1 h2 => by omega) hs (sort_sorted l) (h.trans (List.mergeSort_perm _ _).symm)

/-- The rows of some sets together are the blocks of those. -/
theorem rows_perm (l : Lines) : ∀ (D : List Int), D.Nodup → (D.map l.row).flatten.Perm (l.all.filter fun b => decide (b % l.sets ∈ D))
  | [], _ => by simp
  | k :: D, h => by
    obtain ⟨h1, h2⟩ := List.nodup_cons.1 h
    have ih := rows_perm l D h2
    rw [List.map_cons, List.flatten_cons]
    refine (List.Perm.append_left _ ih).trans ?_
    simp only [Lines.row]
    generalize l.all = a
    induction a with
    | nil => simp
    | cons b a ih2 =>
      simp only [List.filter_cons, List.mem_cons]
      by_cases hk : b % l.sets = k
      · have hD : b % l.sets ∉ D := by rw [hk]; exact h1
        simp only [hk, decide_true, if_true, true_or] at hD ⊢
        simp only [hD, decide_false, Bool.false_eq_true, if_false]
        exact List.Perm.cons _ (by simpa using ih2)
      · by_cases hD : b % l.sets ∈ D
        · simp only [hk, hD, decide_true, decide_false, if_true, or_true, Bool.false_eq_true, if_false]
          exact List.perm_middle.trans (List.Perm.cons _ (by simpa using ih2))
        · simp only [hk, hD, decide_false, or_self, Bool.false_eq_true, if_false]
          simpa using ih2

theorem Lines.few {l : Lines} (h : l.Ok) : l.all.length ≤ 1024 := by
  have hp := rows_perm l ((List.range 64).map fun i : Nat => (i : Int)) (by
    rw [List.Nodup, List.pairwise_map]; exact List.nodup_range.imp (fun h e => h (by omega)))
  have h1 : (l.all.filter fun b => decide (b % l.sets ∈ (List.range 64).map fun i : Nat => (i : Int))) = l.all := by
    rw [List.filter_eq_self]
    intro b hb
    have := h.s1
    have := h.s2
    have h1 := Int.emod_nonneg b (show l.sets ≠ 0 by omega)
    have h2 := Int.emod_lt_of_pos b (show 0 < l.sets by omega)
    simp only [List.mem_map, List.mem_range, decide_eq_true_eq]
    exact ⟨(b % l.sets).toNat, by omega, by omega⟩
  rw [h1] at hp
  rw [← hp.length_eq, List.length_flatten]
  have : ∀ ks : List Int, (List.map List.length (ks.map l.row)).sum ≤ ks.length * 16 := by
    intro ks
    induction ks with
    | nil => simp
    | cons k ks ih =>
      have := h.room k
      have := h.w2
      simp only [List.map_cons, List.sum_cons, List.length_cons]
      omega
  have := this ((List.range 64).map fun i : Nat => (i : Int))
  simpa using this
end Go.Proofs.Ytamidchoghmmgaa
