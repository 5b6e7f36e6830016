/-
  Go's library on slices of whole numbers, and maps.Clone, laid at this program; and what its calls come to on slices of one's own.
-/
import Derived.Test.YtamidchoghmmgaaRows
import Derived.Test.YtamidchoghmmgaaJ2
import Derived.Test.YtamidchoghmmgaaSh
namespace Go.Proofs.Ytamidchoghmmgaa
open Go.RowKit Go.Sort Go.Shelf

/-- The place of a number among some; -1: it isn't there. -/
def posOf (l : List Int) (x : Int) : Int := Lib.idxOf l x

theorem sliceInts {w : World} {v : Value} {l : List Int} (h : SliceIs w 1 v (ints l)) :
    ∃ A cap, v = .slice A l.length cap ∧ l.length ≤ cap ∧ l.length ≤ 9223372036854775807 ∧ (0 < l.length → ∃ b off, A = some ⟨b, off, none⟩ ∧ ∀ j, j < l.length → w.cell? ⟨b, off + j, none⟩ = some (.int .i64 (l.getD j 0))) := by
  obtain ⟨A, cap, rfl, h1, h2, h3⟩ := h
  simp only [ints_length] at h1 h2 h3 ⊢
  refine ⟨A, cap, rfl, h1, h2, fun hp => ?_⟩
  obtain ⟨b, off, e, hr⟩ := h3 hp
  exact ⟨b, off, e, ints_cells hr⟩

theorem Index_calls (l : List Int) (x : Int) (v : Value) (w : World) (h : SliceIs w 1 v (ints l)) :
    Calls Try.prog 29 #[v, .int .i64 x] w fun e w' => e = .returned (.int .i64 (posOf l x)) ∧ w = w' := by
  obtain ⟨A, cap, rfl, h1, h2, h3⟩ := sliceInts h
  by_cases hp : 0 < l.length
  · obtain ⟨b, off, rfl, hc⟩ := h3 hp
    have hcon := Any.slices_Index_int layIndex b off l.length cap l x w (Nat.le_refl _) h2 hc
    change Calls Try.prog 29 _ _ _ at hcon
    refine hcon.mono ?_
    rintro e w' ⟨rfl, rfl⟩
    rw [List.take_length]; exact ⟨rfl, rfl⟩
  · have h0 : l = [] := by cases l with | nil => rfl | cons a l => simp at hp
    subst h0
    have hcon := Any.slices_Index_int_empty layIndex A cap x w
    change Calls Try.prog 29 _ _ _ at hcon
    refine hcon.mono ?_
    rintro e w' ⟨rfl, rfl⟩
    exact ⟨rfl, rfl⟩

theorem Contains_calls (l : List Int) (x : Int) (v : Value) (w : World) (h : SliceIs w 1 v (ints l)) :
    Calls Try.prog 32 #[v, .int .i64 x] w fun e w' => e = .returned (.bool (l.contains x)) ∧ w = w' := by
  obtain ⟨A, cap, rfl, h1, h2, h3⟩ := sliceInts h
  by_cases hp : 0 < l.length
  · obtain ⟨b, off, rfl, hc⟩ := h3 hp
    have hcon := Any.slices_Contains_int layContains b off l.length cap l x w (Nat.le_refl _) h2 hc
    change Calls Try.prog 32 _ _ _ at hcon
    refine hcon.mono ?_
    rintro e w' ⟨rfl, rfl⟩
    rw [List.take_length]; exact ⟨rfl, rfl⟩
  · have h0 : l = [] := by cases l with | nil => rfl | cons a l => simp at hp
    subst h0
    have hcon := Any.slices_Contains_int_empty layContains A cap x w
    change Calls Try.prog 32 _ _ _ at hcon
    refine hcon.mono ?_
    rintro e w' ⟨rfl, rfl⟩
    exact ⟨rfl, rfl⟩

theorem Delete_calls (l : List Int) (i : Nat) (v : Value) (w : World) (h : OwnSl w 3 1 v (ints l)) (hi : i < l.length) :
    Calls Try.prog 30 #[v, .int .i64 i, .int .i64 ((i : Int) + 1)] w fun e w' => ∃ v', e = .returned v' ∧ OwnSl w' 3 1 v' (ints (l.eraseIdx i)) ∧ v'.ownBlock = v.ownBlock ∧ Chg (fun k => v.ownBlock = some k) w w' := by
  rcases ownInts_cells h with ⟨_, rfl⟩ | ⟨g, cap, cur, rfl, hb, h1, h2, h3, h4⟩
  · simp at hi
  have hcon := Any.slices_Delete_int layDelete g 0 cap i (i + 1) l w (own_holds hb h4) h1 h2 (by omega) (by omega)
  change Calls Try.prog 30 _ _ _ at hcon
  rw [Int.natCast_add] at hcon
  refine hcon.mono ?_
  rintro e w' ⟨rfl, q, rfl⟩
  have e1 : l.take i ++ l.drop (i + 1) = l.eraseIdx i := (List.eraseIdx_eq_take_drop_succ l i).symm
  have e2 : (l.eraseIdx i).length = l.length - 1 := by rw [List.length_eraseIdx, if_pos hi]
  have hlen : (l.take i ++ l.drop (i + 1) ++ List.replicate (i + 1 - i) 0).length = l.length := by rw [e1]; simp [e2]; omega
  obtain ⟨p1, p2⟩ := putCells_list (l.take i ++ l.drop (i + 1) ++ List.replicate (i + 1 - i) 0) cur (by rw [hlen]; omega)
  refine ⟨_, rfl, ?_, rfl, (chg_putRow q _).mono (fun k _ hk => by rw [hk]; rfl)⟩
  have e3 : l.length - (i + 1 - i) = (l.eraseIdx i).length := by omega
  rw [e3]
  refine ownInts_of (ob_putRow q _ hb) (by omega) h2 (by rw [p1, h3]) ?_
  rw [p2 _ (by omega), e1, List.take_left' rfl]

theorem Clone_calls (l : List Int) (v : Value) (w : World) (h : SliceIs w 1 v (ints l)) (hl : l.length ≤ 1000000) :
    Calls Try.prog 34 #[v] w fun e w' => ∃ v', e = .returned v' ∧ OwnSl w' 3 1 v' (ints l) ∧ (∀ k, v'.ownBlock = some k → w.heap.size ≤ k) ∧ Below w.heap.size w w' := by
  obtain ⟨A, cap, rfl, h1, h2, h3⟩ := sliceInts h
  have own : ∀ (v' : Value) (w' : World), w'.ownsRow w.heap.size 3 1 v' l.length (l.map (Value.int .i64)) → OwnSl w' 3 1 v' (ints l) ∧ (∀ k, v'.ownBlock = some k → w.heap.size ≤ k) := by
    rintro v' w' ⟨q1, q2⟩
    rcases q2 with ⟨rfl, q3⟩ | ⟨g, cap, cur, rfl, q3, q4⟩
    · have h0 : l = [] := by cases l with | nil => rfl | cons a l => simp at q3
      subst h0
      exact ⟨OwnSl.nil, fun k hk => by simp [Value.ownBlock] at hk⟩
    · refine ⟨⟨⟨(ints_ok l).flat, .inr ⟨g, cap, cur, by simp, Nat.zero_le _, ?_⟩⟩, ints_ok l⟩, fun k hk => by simp only [Value.ownBlock, Option.some.injEq] at hk; omega⟩
      rw [ints_flat, ints_length]
      exact q4
  by_cases hp : 0 < l.length
  · obtain ⟨b, off, rfl, hc⟩ := h3 hp
    have hcon := Any.slices_Clone_int layClone b off l.length cap l w (Nat.le_refl _) (by omega) hc
    change Calls Try.prog 34 _ _ _ at hcon
    refine hcon.mono ?_
    rintro e w' ⟨v', rfl, q1, _, q2⟩
    rw [List.take_length] at q1
    exact ⟨v', rfl, (own v' w' q1).1, (own v' w' q1).2, q2⟩
  · have h0 : l = [] := by cases l with | nil => rfl | cons a l => simp at hp
    subst h0
    cases A with
    | none =>
      have hcon := Any.slices_Clone_int_nil layClone 0 cap w
      change Calls Try.prog 34 _ _ _ at hcon
      refine hcon.mono ?_
      rintro e w' ⟨rfl, rfl⟩
      exact ⟨_, rfl, OwnSl.nil, fun k hk => by simp [Value.ownBlock] at hk, Below.refl _ _⟩
    | some a =>
      have hcon := Any.slices_Clone_int_zero layClone a cap w
      change Calls Try.prog 34 _ _ _ at hcon
      refine hcon.mono ?_
      rintro e w' ⟨v', rfl, q1, _, q2⟩
      exact ⟨v', rfl, (own v' w' q1).1, (own v' w' q1).2, q2⟩

theorem Sort_calls (l : List Int) (v : Value) (w : World) (h : OwnSl w 3 1 v (ints l)) (hl : l.length ≤ 1000000) :
    Calls Try.prog 33 #[v] w fun e w' => e = .returned (.tuple #[]) ∧ OwnSl w' 3 1 v (ints (l.mergeSort fun x y => decide (x ≤ y))) ∧ Chg (fun k => v.ownBlock = some k) w w' := by
  rcases ownInts_cells h with ⟨rfl, rfl⟩ | ⟨g, cap, cur, rfl, hb, h1, h2, h3, h4⟩
  · have hcon := Any.slices_Sort_int_none laySort none 0 w
    change Calls Try.prog 33 _ _ _ at hcon
    refine hcon.mono ?_
    rintro e w' ⟨rfl, rfl⟩
    exact ⟨rfl, by simpa using h, Chg.refl _ _⟩
  · have hcon := Any.slices_Sort_int laySort g 0 cap l w (own_holds hb h4) (ob_lt hb) (by omega)
    change Calls Try.prog 33 _ _ _ at hcon
    refine hcon.mono ?_
    rintro e w' ⟨rfl, n, os, rfl⟩
    have hl' : (l.mergeSort fun x y => decide (x ≤ y)).length = l.length := List.length_mergeSort _
    obtain ⟨p1, p2⟩ := putCells_list (l.mergeSort fun x y => decide (x ≤ y)) cur (by rw [hl']; omega)
    refine ⟨rfl, ?_, (chg_grow (chg_putRow n _) os).mono (fun k _ hk => by rw [hk]; rfl)⟩
    rw [← hl']
    refine ownInts_of (ob_grow os (ob_putRow n _ hb)) (by omega) h2 (by rw [p1, h3]) ?_
    rw [p2 _ (Nat.le_refl _), List.take_length]
end Go.Proofs.Ytamidchoghmmgaa
