/-
  What CacheCopies asks, plainly. No program is named.
-/
import Derived.Test.YtocnhmakgbdbfaaCaP5
set_option linter.unusedVariables false
set_option linter.unusedSimpArgs false
namespace Go.Proofs.Ytocnhmakgbdbfaa

def CacheM.takeAll (c : CacheM) (b : Int) : CacheM := (c.take b (c.tok b).count true true).1
theorem split_all {h : Bundle} (g : h.Good) : (h.split h.count true true).2 = Bundle.none := by
  have hp := g.pos
  have hc := Bundle.split_count g h.count true true
  have e : (h.given h.count true).1 = h.count := by
    unfold Bundle.given
    have : min (max h.count 0) h.count = h.count := by omega
    simp only [this]
    split
    · split
      · rfl
      · rename_i h1 h2
        split
        · simp only
          have : ¬ 0 < h.count := fun h3 => h2 ⟨trivial, h3⟩
          have h0 : h.count = 0 := by omega
          have := g.own h0
          rw [this] at h1; cases h1
        · rfl
    · rfl
  unfold Bundle.split
  simp only [e]
  split
  · rename_i h1; exact Bundle.eq_none g (show h.count = 0 by omega)
  · simp only [if_true]
theorem takeAll_tok {c : CacheM} (ok : c.Ok) (b j : Int) : (c.takeAll b).tok j = if j = b then Bundle.none else c.tok j := by
  show (if j = b then ((c.tok b).split (c.tok b).count true true).2 else c.tok j) = _
  rw [split_all (ok.good b)]
theorem takeAll_ok {c : CacheM} (ok : c.Ok) (b : Int) : (c.takeAll b).Ok := CacheM.take_ok ok b _ true true
theorem one_line {c : CacheM} (ok : c.Ok) (b : Int) (h : ∀ j, j ≠ b → c.tok j = Bundle.none) : c.all.length ≤ 1 := by
  have e : c.all.length = c.lines.all.length := by simp [CacheM.all, Lines.list, (List.mergeSort_perm _ _).length_eq]
  rw [e]
  have hm : ∀ x ∈ c.lines.all, x ∈ [b] := fun x hx => by
    have := (ok.mem x).1 hx
    by_cases e : x = b
    · simp [e]
    · rw [h x e] at this; exact absurd this CacheM.none_pos
  have hn := ok.lines.nodup
  generalize c.lines.all = l at hm hn
  match l, hn with
  | [], _ => simp
  | [_], _ => simp
  | x :: y :: l, hn =>
    have h1 := hm x (by simp)
    have h2 := hm y (by simp)
    simp only [List.mem_singleton] at h1 h2
    subst h1
    subst h2
    simp at hn
theorem absorb_other {c : CacheM} (ok : c.Ok) (h : ∀ j, c.tok j = Bundle.none) (b : Int) (t : Bundle) (pin j : Int) (hj : j ≠ b) : (c.absorb b t pin).1.tok j = Bundle.none := by
  have hl : ∀ x, c.lines.has x = false := fun x => by
    cases hh : c.lines.has x with
    | false => rfl
    | true =>
      have := (ok.mem x).1 ((c.lines.has_iff x).1 hh)
      rw [h x] at this; exact absurd this CacheM.none_pos
  unfold CacheM.absorb
  split
  · exact h j
  split
  · rename_i h2; rw [hl] at h2; cases h2
  split
  · exact h j
  split
  · rename_i h2; rw [hl] at h2; cases h2
  · show (if j = b then t else c.tok j) = _
    rw [if_neg hj]; exact h j
end Go.Proofs.Ytocnhmakgbdbfaa
