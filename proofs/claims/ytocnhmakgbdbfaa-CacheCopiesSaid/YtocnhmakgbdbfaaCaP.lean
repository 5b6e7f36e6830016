/-
  What the statements on the cache ask, plainly. No program is named.
-/
import Derived.Test.YtocnhmakgbdbfaaCaM
set_option linter.unusedVariables false
set_option linter.unusedSimpArgs false
namespace Go.Proofs.Ytocnhmakgbdbfaa

theorem absorb_pinned {c : CacheM} (h : c.Ok) (block : Int) {b : Bundle} (g : b.Good) (pinned : Int) (hp : 0 ≤ pinned) :
    ((c.absorb block b pinned).2.2 = true → (c.absorb block b pinned).2.1.block ≠ pinned) ∧
    ((c.absorb block b pinned).1.tok pinned).count = (c.tok pinned).count + (if block = pinned then b.count else 0) := by
  have gp := g.pos
  unfold CacheM.absorb
  by_cases q1 : b.count < 1
  · rw [if_pos q1]
    refine ⟨(fun h => by cases h), ?_⟩
    show (c.tok pinned).count = _
    split <;> omega
  rw [if_neg q1]
  by_cases q2 : c.lines.has block = true
  · rw [if_pos q2]
    refine ⟨(fun h => by cases h), ?_⟩
    show (if pinned = block then (c.tok block).join b else c.tok pinned).count = _
    by_cases e : block = pinned
    · subst e
      rw [if_pos rfl, if_pos rfl]; rfl
    · rw [if_neg (Ne.symm e), if_neg e]; omega
  rw [if_neg q2]
  have q2' : c.lines.has block = false := by simpa using q2
  obtain ⟨f1, f2, f3, f4⟩ := victim_facts h.lines block pinned
  have hno : block = pinned → (c.tok pinned).count = 0 := fun e => by
    have : c.tok pinned = Bundle.none := h.none fun hm => by rw [← e] at hm; exact q2 ((c.lines.has_iff _).2 hm)
    rw [this]; rfl
  by_cases q3 : (c.lines.victim block pinned).2 = false
  · rw [if_pos q3]
    obtain ⟨g1, g2, g3, g4⟩ := f1 q3
    have hne : block ≠ pinned := fun e => by
      subst e
      rcases g4 with g4 | g4
      · omega
      · rw [g4] at g2; cases g2
    refine ⟨fun _ => hne, ?_⟩
    show (c.tok pinned).count = _
    rw [if_neg hne]; omega
  rw [if_neg q3]
  obtain ⟨a1, a2⟩ := absorb_can (pinned := pinned) h q2' (by simpa using q3)
  by_cases q4 : c.lines.has (c.lines.victim block pinned).1 = true
  · rw [if_pos q4]
    obtain ⟨_, hv, _⟩ := a1 q4
    refine ⟨fun _ => hv, ?_⟩
    show (if pinned = block then b else if pinned = (c.lines.victim block pinned).1 then Bundle.none else c.tok pinned).count = _
    by_cases e : block = pinned
    · have := hno e
      rw [if_pos e.symm, if_pos e]; omega
    · rw [if_neg (Ne.symm e), if_neg (Ne.symm hv), if_neg e]; omega
  · rw [if_neg q4]
    refine ⟨(fun h => by cases h), ?_⟩
    show (if pinned = block then b else c.tok pinned).count = _
    by_cases e : block = pinned
    · have := hno e
      rw [if_pos e.symm, if_pos e]; omega
    · rw [if_neg (Ne.symm e), if_neg e]; omega
theorem absorb_bound {c : CacheM} (h : c.Ok) (block : Int) {b : Bundle} (g : b.Good) (pinned j : Int) : ((c.absorb block b pinned).1.tok j).count ≤ (c.tok j).count + b.count := by
  have gp := g.pos
  have hj := (h.good j).pos
  have hn : Bundle.none.count = 0 := rfl
  unfold CacheM.absorb
  split
  · show (c.tok j).count ≤ _; omega
  split
  · show (if j = block then (c.tok block).join b else c.tok j).count ≤ _
    split
    · rename_i e; subst e; exact Int.le_refl _
    · omega
  split
  · show (c.tok j).count ≤ _; omega
  split
  · show (if j = block then b else if j = (c.lines.victim block pinned).1 then Bundle.none else c.tok j).count ≤ _
    split
    · omega
    · split
      · omega
      · omega
  · show (if j = block then b else c.tok j).count ≤ _
    split <;> omega
end Go.Proofs.Ytocnhmakgbdbfaa
