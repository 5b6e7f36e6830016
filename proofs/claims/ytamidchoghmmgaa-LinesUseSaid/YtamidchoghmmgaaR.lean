/-
  What comes in as an argument and reads as a struct of the package api has that struct's cells; a slice of such has theirs, one behind the other. And the frame of a statement: a walk that changes nothing that was there gives the row.
-/
import Derived.Test.YtamidchoghmmgaaT
import Derived.Test.YtamidchoghmmgaaRows
import Derived.ProofKit
import Derived.OpenShut
import Derived.ChangeOld
import Derived.Deep.Slices
namespace Go.Proofs.Ytamidchoghmmgaa
set_option maxRecDepth 100000
set_option linter.unusedSimpArgs false
open Go.RowKit Go.ChangeShapes Go.WideShapes Go.ChangeAt Go.Deep

section
variable {H : Type} {enc : TypeId × Value → H} {W : World} {base : Nat} {sp : Nat → Bool} {held : Bool} {fuel : Nat} {cs : List Value} {x : DataW H × List MemPlace}
theorem int_of_trod (h : DataW.trod enc Try.prog W base sp held fuel 3 cs = some x) : ∃ n, cs = [.int .i64 n] ∧ i64ok n := by
  obtain ⟨n, e, _, hw⟩ := DataW.trod_int Try.underlying3 h
  exact ⟨n, e, by have := bounds_i64 hw; unfold i64ok; omega⟩
theorem int64_of_trod (h : DataW.trod enc Try.prog W base sp held fuel 2 cs = some x) : ∃ n, cs = [.int .i64 n] ∧ i64ok n := by
  obtain ⟨n, e, _, hw⟩ := DataW.trod_int Try.underlying2 h
  exact ⟨n, e, by have := bounds_i64 hw; unfold i64ok; omega⟩
theorem bool_of_trod (h : DataW.trod enc Try.prog W base sp held fuel 4 cs = some x) : ∃ b, cs = [.bool b] := by
  obtain ⟨n, e, _⟩ := DataW.trod_bool Try.underlying4 h
  exact ⟨n, e⟩
theorem one_eq {a b : Value} (h : [a] = [b]) : a = b := by cases h; rfl
theorem fieldTrod {α : Type} {xs : List α} {n i : Nat} {o : Option α} (hx : xs.length = n) (hi : i < n) (h : o = xs[i]?) : ∃ y, o = some y := by
  rw [h, List.getElem?_eq_getElem (by omega)]
  exact ⟨_, rfl⟩
theorem len2 {l : List Value} (h : l.length = 2) : ∃ c0 c1, l = [c0, c1] := by
  match l, h with
  | [c0, c1], _ => exact ⟨c0, c1, rfl⟩
theorem len3 {l : List Value} (h : l.length = 3) : ∃ c0 c1 c2, l = [c0, c1, c2] := by
  match l, h with
  | [c0, c1, c2], _ => exact ⟨c0, c1, c2, rfl⟩
theorem len4 {l : List Value} (h : l.length = 4) : ∃ c0 c1 c2 c3, l = [c0, c1, c2, c3] := by
  match l, h with
  | [c0, c1, c2, c3], _ => exact ⟨c0, c1, c2, c3, rfl⟩
theorem len5 {l : List Value} (h : l.length = 5) : ∃ c0 c1 c2 c3 c4, l = [c0, c1, c2, c3, c4] := by
  match l, h with
  | [c0, c1, c2, c3, c4], _ => exact ⟨c0, c1, c2, c3, c4, rfl⟩
theorem len7 {l : List Value} (h : l.length = 7) : ∃ c0 c1 c2 c3 c4 c5 c6, l = [c0, c1, c2, c3, c4, c5, c6] := by
  match l, h with
  | [c0, c1, c2, c3, c4, c5, c6], _ => exact ⟨c0, c1, c2, c3, c4, c5, c6, rfl⟩
theorem len9 {l : List Value} (h : l.length = 9) : ∃ c0 c1 c2 c3 c4 c5 c6 c7 c8, l = [c0, c1, c2, c3, c4, c5, c6, c7, c8] := by
  match l, h with
  | [c0, c1, c2, c3, c4, c5, c6, c7, c8], _ => exact ⟨c0, c1, c2, c3, c4, c5, c6, c7, c8, rfl⟩
theorem len11 {l : List Value} (h : l.length = 11) : ∃ c0 c1 c2 c3 c4 c5 c6 c7 c8 c9 c10, l = [c0, c1, c2, c3, c4, c5, c6, c7, c8, c9, c10] := by
  match l, h with
  | [c0, c1, c2, c3, c4, c5, c6, c7, c8, c9, c10], _ => exact ⟨c0, c1, c2, c3, c4, c5, c6, c7, c8, c9, c10, rfl⟩
theorem len13 {l : List Value} (h : l.length = 13) : ∃ c0 c1 c2 c3 c4 c5 c6 c7 c8 c9 c10 c11 c12, l = [c0, c1, c2, c3, c4, c5, c6, c7, c8, c9, c10, c11, c12] := by
  match l, h with
  | [c0, c1, c2, c3, c4, c5, c6, c7, c8, c9, c10, c11, c12], _ => exact ⟨c0, c1, c2, c3, c4, c5, c6, c7, c8, c9, c10, c11, c12, rfl⟩
theorem len18 {l : List Value} (h : l.length = 18) : ∃ c0 c1 c2 c3 c4 c5 c6 c7 c8 c9 c10 c11 c12 c13 c14 c15 c16 c17, l = [c0, c1, c2, c3, c4, c5, c6, c7, c8, c9, c10, c11, c12, c13, c14, c15, c16, c17] := by
  match l, h with
  | [c0, c1, c2, c3, c4, c5, c6, c7, c8, c9, c10, c11, c12, c13, c14, c15, c16, c17], _ => exact ⟨c0, c1, c2, c3, c4, c5, c6, c7, c8, c9, c10, c11, c12, c13, c14, c15, c16, c17, rfl⟩
theorem Pair.of_trod (h : DataW.trod enc Try.prog W base sp held fuel 22 cs = some x) : ∃ d : Pair, cs = d.cells ∧ d.ok := by
  obtain ⟨xs, n, rfl, _, hl, hx, H⟩ := DataW.trod_array Try.underlying22 h
  rw [show Try.prog.cellsOf 22 = 2 from by kernel_rfl] at hl
  obtain ⟨c0, c1, rfl⟩ := len2 hl
  obtain ⟨y0, hy0⟩ := fieldTrod hx (by decide) (H 0 (by decide))
  simp only [show Try.prog.cellsOf 3 = 1 from by kernel_rfl, List.drop, List.take, Nat.mul_one, Nat.zero_mul] at hy0
  obtain ⟨v0, e0, o0⟩ := int_of_trod hy0
  obtain ⟨y1, hy1⟩ := fieldTrod hx (by decide) (H 1 (by decide))
  simp only [show Try.prog.cellsOf 3 = 1 from by kernel_rfl, List.drop, List.take, Nat.mul_one, Nat.zero_mul] at hy1
  obtain ⟨v1, e1, o1⟩ := int_of_trod hy1
  obtain rfl := one_eq e0
  obtain rfl := one_eq e1
  exact ⟨⟨v0, v1⟩, rfl, ⟨o0, o1⟩⟩
theorem Act08.of_trod (h : DataW.trod enc Try.prog W base sp held fuel 30 cs = some x) : ∃ d : Act08, cs = d.cells ∧ d.ok := by
  obtain ⟨xs, n, rfl, _, hl, hx, H⟩ := DataW.trod_struct Try.underlying30 h
  rw [show Try.prog.cellsOf 30 = 2 from by kernel_rfl] at hl
  obtain ⟨c0, c1, rfl⟩ := len2 hl
  obtain ⟨y0, hy0⟩ := fieldTrod hx (by decide) (H 0 _ rfl)
  change DataW.trod enc Try.prog W base sp held n 3 (List.take (Try.prog.cellsOf 3) (List.drop 0 [c0, c1])) = some y0 at hy0
  simp only [show Try.prog.cellsOf 3 = 1 from by kernel_rfl, List.drop, List.take] at hy0
  obtain ⟨v0, e0, o0⟩ := int_of_trod hy0
  obtain ⟨y1, hy1⟩ := fieldTrod hx (by decide) (H 1 _ rfl)
  change DataW.trod enc Try.prog W base sp held n 3 (List.take (Try.prog.cellsOf 3) (List.drop 1 [c0, c1])) = some y1 at hy1
  simp only [show Try.prog.cellsOf 3 = 1 from by kernel_rfl, List.drop, List.take] at hy1
  obtain ⟨v1, e1, o1⟩ := int_of_trod hy1
  obtain rfl := one_eq e0
  obtain rfl := one_eq e1
  exact ⟨⟨v0, v1⟩, rfl, ⟨o0, o1⟩⟩

/-- A slice that came in: its elements' cells, one behind the other. -/
theorem slice_of_trod {α : Type} {t e sz : Nat} {ok : α → Prop} {cells : α → List Value} {v : Value} (ht : Try.prog.underlying t = some (.slice e)) (hsz : Try.prog.cellsOf e = sz) (hpos : 0 < sz) (hlen : ∀ d, (cells d).length = sz)
    (hread : ∀ {fuel : Nat} {cs : List Value} {x : DataW H × List MemPlace}, DataW.trod enc Try.prog W base sp held fuel e cs = some x → ∃ d : α, cs = cells d ∧ ok d)
    (h : DataW.trod enc Try.prog W base sp held fuel t v.cells.toList = some x) (hv : ∃ a l c, v = .slice a l c) : ∃ l : List α, SliceIs W sz v (l.map cells) ∧ ∀ d ∈ l, ok d := by
  obtain ⟨a, len, cap, rfl⟩ := hv
  rcases open_slice ht h with ⟨hcs, _⟩ | ⟨ad, len', cap', m, n, D, Pl, hcs, _, hlc, hcm, hm, _, hall⟩
  · simp [Value.cells] at hcs
    obtain ⟨rfl, rfl, rfl⟩ := hcs
    exact ⟨[], ⟨none, 0, rfl, Nat.zero_le _, by simp, fun h0 => absurd h0 (by simp)⟩, by simp⟩
  · simp [Value.cells] at hcs
    obtain ⟨rfl, rfl, rfl⟩ := hcs
    unfold maxLen at hcm
    have hlm : len ≤ m := by rw [hm]; split <;> omega
    have hx : ∀ i, i < len → ∃ d : α, W.cells? base (ad.add (i * sz)) sz = some (cells d) ∧ ok d := by
      intro i hi
      obtain ⟨cs', h1, h2⟩ := hall i (by omega)
      obtain ⟨d, rfl, hd⟩ := hread h2
      rw [hsz] at h1
      exact ⟨d, h1, hd⟩
    rcases Nat.eq_zero_or_pos len with h0 | h0
    · subst h0
      exact ⟨[], ⟨some ad, cap, rfl, Nat.zero_le _, by simp, fun h0 => absurd h0 (by simp)⟩, by simp⟩
    · obtain ⟨d0, hd0, _⟩ := hx 0 h0
      haveI : Inhabited α := ⟨d0⟩
      obtain ⟨f, hf⟩ := choose_lt hx
      have hcell : ∀ i, i < len → ∀ j u, (cells (f i))[j]? = some u → W.cell? (ad.add (i * sz + j)) = some u := by
        intro i hi j u hu
        have h1 := (hf i hi).1
        obtain ⟨_, _, h4⟩ := World.cells?_some h1
        have := h4 j (by have := (List.getElem?_eq_some_iff.1 hu).1; rw [hlen] at this; exact this)
        rw [add_add] at this
        rw [this, hu]
      obtain ⟨b, off, spot⟩ := ad
      have hspot : spot = none := by
        obtain ⟨u, hu⟩ : ∃ u, (cells (f 0))[0]? = some u := ⟨_, List.getElem?_eq_getElem (by rw [hlen]; exact hpos)⟩
        have := hcell 0 h0 0 u hu
        rw [Nat.zero_mul, Nat.zero_add] at this
        exact World.cell?_spot this
      subst hspot
      refine ⟨(List.range len).map f, ⟨_, cap, by simp, by simpa using hlc, by simp; omega, fun _ => ⟨b, off, rfl, fun i r hr j u hu => ?_⟩⟩, ?_⟩
      · simp only [List.map_map, List.getElem?_map] at hr
        by_cases hi : i < len
        · simp [hi] at hr
          subst hr
          have := hcell i hi j u hu
          rwa [Addr.add_mid, ← Nat.add_assoc] at this
        · simp [hi] at hr
      · intro d hd
        simp only [List.mem_map, List.mem_range] at hd
        obtain ⟨i, hi, rfl⟩ := hd
        exact (hf i hi).2
end

theorem law_own : ownKnob Try.prog.godebug = none := by kernel_rfl
theorem law_laidOut : laidOutB Try.prog = true := by kernel_rfl
theorem one_value {w : World} {base t : Nat} {v u : Value} (hv : Value.okWide Try.prog w .any base t v) (ht : Try.prog.underlying t = some (.int .i64)) (h : v.cells.toList = [u]) : v = u := by
  obtain ⟨n, rfl⟩ := okWide_int ht hv
  simpa [Value.cells] using h
theorem okWide_array {P : Program} {w : World} {r : Reach} {base t n : Nat} {e : TypeId} {v : Value} (ht : P.underlying t = some (.array n e)) (h : Value.okWide P w r base t v) : ∃ cs, v = .agg cs ∧ cs.size = P.cellsOf t := by
  unfold Value.okWide at h
  rw [ht] at h
  cases v <;> simp_all
end Go.Proofs.Ytamidchoghmmgaa
