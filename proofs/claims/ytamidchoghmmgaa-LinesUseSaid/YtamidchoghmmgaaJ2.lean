/-
  Slices of whole numbers: what they hold. No program is named.
-/
import Derived.Test.YtamidchoghmmgaaJ
import Derived.Sort.Row
import Derived.Sort.Grow
namespace Go.Proofs.Ytamidchoghmmgaa
open Go.RowKit Go.Sort

/-- Whole numbers as a slice's rows. -/
def ints (l : List Int) : List (List Value) := l.map fun b => [.int .i64 b]
@[simp] theorem ints_length (l : List Int) : (ints l).length = l.length := by simp [ints]
theorem ints_flat (l : List Int) : (ints l).flatten = l.map (Value.int .i64) := by
  induction l with
  | nil => rfl
  | cons a l ih => simp only [ints, List.map_cons, List.flatten_cons] at ih ⊢; rw [ih]; rfl
theorem ints_ok (l : List Int) : RowsOk 1 (ints l) := ⟨fun r hr => by obtain ⟨d, _, rfl⟩ := List.mem_map.1 hr; rfl, fun r hr u hu => by
  obtain ⟨d, _, rfl⟩ := List.mem_map.1 hr
  simp only [List.mem_cons, List.not_mem_nil, or_false] at hu
  subst hu; rfl⟩
theorem ints_append (a b : List Int) : ints (a ++ b) = ints a ++ ints b := by simp [ints]
theorem ints_take (a : List Int) (n : Nat) : ints (a.take n) = (ints a).take n := by simp [ints]
theorem ints_drop (a : List Int) (n : Nat) : ints (a.drop n) = (ints a).drop n := by simp [ints]

theorem ints_cells {w : World} {b off : Nat} {l : List Int} (h : RowsAt w b off 1 (ints l)) (j : Nat) (hj : j < l.length) : w.cell? ⟨b, off + j, none⟩ = some (.int .i64 (l.getD j 0)) := by
  have h1 := h j [.int .i64 (l.getD j 0)] (by simp [ints, List.getD, hj]) 0 (.int .i64 (l.getD j 0)) rfl
  simpa using h1

/-- A slice of one's own that isn't nil: its block. -/
theorem ownInts_cells {w : World} {e : TypeId} {v : Value} {l : List Int} (h : OwnSl w e 1 v (ints l)) :
    (v = .slice none 0 0 ∧ l = []) ∨ ∃ g cap cur, v = .slice (some ⟨g, 0, none⟩) l.length cap ∧ ob w g = some (.cells cur e (0, 0)) ∧ l.length ≤ cap ∧ cap ≤ 9223372036854775807 ∧ cur.size = cap ∧ cur.toList.take l.length = l.map (Value.int .i64) := by
  rcases h.own.2 with ⟨rfl, h0⟩ | ⟨g, cap, cur, rfl, _, hh, hc, hm, hcs, ht⟩
  · left
    simp at h0
    exact ⟨rfl, h0⟩
  · right
    unfold maxLen at hm
    simp only [ints_length, Nat.mul_one] at ht hc hcs ⊢
    exact ⟨g, cap, cur, rfl, hh, hc, hm, hcs, by rw [ht, ints_flat]⟩
theorem ownInts_of {w : World} {e : TypeId} {l : List Int} {g cap : Nat} {cur : Array Value} (hb : ob w g = some (.cells cur e (0, 0))) (h1 : l.length ≤ cap) (h2 : cap ≤ 9223372036854775807) (h3 : cur.size = cap) (h4 : cur.toList.take l.length = l.map (Value.int .i64)) :
    OwnSl w e 1 (.slice (some ⟨g, 0, none⟩) l.length cap) (ints l) := by
  refine ⟨⟨(ints_ok l).flat, .inr ⟨g, cap, cur, by simp, Nat.zero_le _, hb, by simpa using h1, by unfold maxLen; omega, by omega, ?_⟩⟩, ints_ok l⟩
  rw [ints_flat, ints_length, Nat.mul_one, h4]

theorem own_holds {w : World} {e : TypeId} {l : List Int} {g : Nat} {cur : Array Value} (hb : ob w g = some (.cells cur e (0, 0))) (h4 : cur.toList.take l.length = l.map (Value.int .i64)) :
    Holds (Value.int .i64) w g 0 l.toArray := by
  intro j hj
  have hj' : j < l.length := by simpa using hj
  refine ⟨?_, frozen_ob hb _⟩
  rw [cell_ob hb, Nat.zero_add]
  have h5 : (cur.toList.take l.length)[j]? = cur[j]? := by rw [List.getElem?_take, if_pos hj']; simp
  rw [← h5, h4]
  simp [hj', getElem!_pos]

theorem ob_putRow {w : World} {e : TypeId} {g : Nat} {cur : Array Value} (q : Nat) (d : Array Int) (hb : ob w g = some (.cells cur e (0, 0))) :
    ob (putRow (Value.int .i64) (Sort.ahead w q) g 0 d) g = some (.cells (putCells (Value.int .i64) 0 d cur) e (0, 0)) := by
  have hb' : w.heap[g]? = some (.cells cur e (0, 0)) := hb
  unfold ob putRow mapBlock Sort.ahead
  simp only [Array.getElem?_modify, if_true, hb', Option.map_some, onCells]
theorem chg_putRow {w : World} {g : Nat} (q : Nat) (d : Array Int) : Chg (fun k => k = g) w (putRow (Value.int .i64) (Sort.ahead w q) g 0 d) := by
  refine ⟨rfl, rfl, rfl, ?_, fun k hk hn => ?_⟩
  · simp [putRow, mapBlock, Sort.ahead]
  · simp only [putRow, mapBlock, Sort.ahead, Array.getElem?_modify]
    rw [if_neg (fun e => hn e.symm)]
theorem putCells_list (d : List Int) (cur : Array Value) (h : d.length ≤ cur.size) : (putCells (Value.int .i64) 0 d.toArray cur).size = cur.size ∧ ∀ n, n ≤ d.length → (putCells (Value.int .i64) 0 d.toArray cur).toList.take n = (d.take n).map (Value.int .i64) := by
  refine ⟨by simp [putCells], fun n hn => ?_⟩
  apply List.ext_getElem?
  intro i
  simp only [List.getElem?_take, List.getElem?_map]
  by_cases hi : i < n
  · rw [if_pos hi, if_pos hi]
    simp only [putCells, Array.getElem?_toList, Array.getElem?_mapIdx]
    rw [Array.getElem?_eq_getElem (by omega), Option.map_some, if_pos (by simp; omega)]
    simp [show i < d.length by omega, getElem!_pos]
  · rw [if_neg hi, if_neg hi]; rfl
theorem chg_grow {S : Nat → Prop} {w w1 : World} (h : Chg S w w1) (os : Array Obj) : Chg S w (Sort.grow w1 os) := by
  have hs := h.size
  refine ⟨h.os, h.tape, h.output, ?_, fun k hk hn => ?_⟩
  · simp only [Sort.grow, Array.size_append]; omega
  · rw [← h.block k hk hn]
    simp only [Sort.grow]
    rw [Array.getElem?_append_left (by omega)]
theorem ob_grow {w : World} (os : Array Obj) {g : Nat} {o : Obj} (h : ob w g = some o) : ob (Sort.grow w os) g = some o := by
  have := ob_lt h
  unfold ob at h ⊢
  simp only [Sort.grow]
  rw [Array.getElem?_append_left this]; exact h

theorem OwnSl.form {w : World} {e sz : Nat} {v : Value} {rows : List (List Value)} (h : OwnSl w e sz v rows) : ∃ A cap, v = .slice A rows.length cap := by
  rcases h.own.2 with ⟨rfl, h0⟩ | ⟨g, cap, cur, rfl, _⟩
  · exact ⟨none, 0, by rw [h0]⟩
  · exact ⟨_, cap, rfl⟩

theorem OwnSl.shape {w : World} {e sz : Nat} {v : Value} {rows : List (List Value)} (h : OwnSl w e sz v rows) : ∃ A n cap, v = .slice A n cap := by
  obtain ⟨A, cap, e⟩ := h.form
  exact ⟨A, _, cap, e⟩
theorem fresh_of {v v0 : Value} {w1 : World} {n j : Nat} (hloc : v.ownBlock = v0.ownBlock ∨ v.ownBlock = some w1.heap.size) (h0 : ∀ k, v0.ownBlock = some k → n ≤ k) (h1 : n ≤ w1.heap.size) (hj : v.ownBlock = some j) : n ≤ j := by
  rcases hloc with h | h
  · rw [h] at hj; exact h0 j hj
  · rw [h] at hj; injection hj with hj; omega

/-- x[:n] and x[n:] as the walk writes them. -/
theorem ints_to {w : World} {A : Option Addr} {cap : Nat} {l : List Int} (h : SliceIs w 1 (.slice A l.length cap) (ints l)) (n : Nat) (hn : n ≤ l.length) : SliceIs w 1 (.slice A n cap) (ints (l.take n)) := by
  rw [ints_take]
  exact h.take hn
theorem ints_from {w : World} {A A' : Option Addr} {cap : Nat} {l : List Int} (h : SliceIs w 1 (.slice A l.length cap) (ints l)) (n : Nat) (hn : n ≤ l.length) (hA : n < l.length → ∀ b off, A = some ⟨b, off, none⟩ → A' = some ⟨b, off + n, none⟩) :
    SliceIs w 1 (.slice A' (l.length - n) (cap - n)) (ints (l.drop n)) := by
  obtain ⟨A0, cap0, he, h1, h2, h3⟩ := h
  simp only [Value.slice.injEq, ints_length] at he h1 h2 h3
  obtain ⟨rfl, _, rfl⟩ := he
  refine ⟨A', cap - n, by simp, by simp; omega, by simp; omega, fun hp => ?_⟩
  rw [ints_length, List.length_drop] at hp
  obtain ⟨b, off, rfl, hr⟩ := h3 (by omega)
  refine ⟨b, off + n, hA (by omega) b off rfl, fun i r hi => ?_⟩
  rw [ints_drop, List.getElem?_drop] at hi
  have := hr (n + i) r hi
  rw [show off + n + i * 1 = off + (n + i) * 1 by omega]; exact this
end Go.Proofs.Ytamidchoghmmgaa
