/-
  A node, plainly: what NodeSums asks of each step. No program is named.
-/
import Derived.Test.YtchlioikkhnidaaGreatMN14
set_option linter.unusedVariables false
set_option linter.unusedSimpArgs false
set_option linter.unusedVariables false
set_option linter.unusedSimpArgs false
namespace Go.Proofs.YtchlioikkhnidaaGreat
open Go.RowKit
structure SumInv (c : Config) (id : Int) (n : Node) (k : Nat) : Prop where
  runs : n.Runs k
  held : n.Held
  nc : n.c = c
  ni : n.id = id
  few : ∀ b, (n.cache.tok b).count ≤ c.tokens
theorem SumInv.new {c : Config} {id : Int} (hc : c.Fine) (hi : 0 ≤ id ∧ id < c.nodes) : SumInv c id (Node.new c id) 0 :=
  ⟨Node.Runs.new c id, Node.Held.new hc hi, rfl, rfl, fun b => by have := hc.tokens; simp [Node.new, CacheM.new, Bundle.none]; omega⟩
theorem SumInv.more {c : Config} {id : Int} {n : Node} {k : Nat} (h : SumInv c id n k) : SumInv c id n (k + 1) :=
  ⟨⟨h.runs.ok, by have := h.runs.number; omega, fun b => by have := h.runs.tok b; omega⟩, h.held, h.nc, h.ni, h.few⟩
theorem SumInv.step {c : Config} {id : Int} {n : Node} {k : Nat} (h : SumInv c id n k) (d : Act15) (hs : ∀ b t, n.comes d = some (b, t) → (n.cache.tok b).count + t.count ≤ c.tokens) :
    SumInv c id (n.step d).1 (k + 1) ∧ SumsAt (n.step d).1 (fun j => (n.cache.tok j).count + come Bundle.count j (n.comes d)) (n.step d).2.1 ∧ (∀ j, (n.cache.tok j).count + come Bundle.count j (n.comes d) ≤ c.tokens) := by
  have g := step_goes n h.runs.ok d
  have hsum : ∀ j, (n.cache.tok j).count + come Bundle.count j (n.comes d) ≤ c.tokens := fun j => by
    cases e : n.comes d with
    | none => have := h.few j; simp only [come]; omega
    | some p =>
      obtain ⟨b, t⟩ := p
      simp only [come]
      split
      · rename_i e2; subst e2; exact hs _ _ e
      · have := h.few j; omega
  refine ⟨⟨h.runs.step (h.held.c) d, h.held.step d, g.c.trans h.nc, g.id.trans h.ni, fun b => ?_⟩, ⟨fun x hx => ?_, fun b => ?_⟩, hsum⟩
  · have h1 := g.le b
    have h2 := hsum b
    omega
  · rw [g.c, g.id]
    exact step_legal h.held (by rw [h.nc]; exact h.few) d x hx
  · have h1 := g.count b
    omega
/-- What the law adds: what came. -/
theorem comes_take {n : Node} {d : Act15} (hk : d.kind = 2) (hl : d.letter.err n.c = 0) (hd : d.letter.dst = n.id) (j : Int) : come Bundle.count j (n.comes d) = if d.letter.block = j then d.letter.tokens.count else 0 := by
  have hL : d.letter.legal n.c = true := by simp [Letter.legal, hl]
  unfold Node.comes
  by_cases h1 : d.letter.kind = 1
  · rw [if_pos ⟨hk, hL, hd, h1⟩]; rfl
  · rw [if_neg (fun h => h1 h.2.2.2)]
    have := (Letter.legal_iff.1 hL).other h1
    rw [this]
    simp [come, Bundle.none]
theorem comes_not {n : Node} {d : Act15} (h : ¬ (d.letter.err n.c = 0 ∧ d.letter.dst = n.id)) : n.comes d = none := by
  unfold Node.comes
  rw [if_neg (fun h1 => h ⟨by simpa [Letter.legal] using h1.2.1, h1.2.2.1⟩)]
theorem comes_other {n : Node} {d : Act15} (h : d.kind ≠ 2) : n.comes d = none := by
  unfold Node.comes
  rw [if_neg (fun h1 => h h1.1)]
/-- The condition with which a letter is let by. -/
def skips (c : Config) (th : Int → Int) (l : Letter) : Bool := decide (l.kind = 1) && (l.tokens.owner || decide (c.tokens < th l.block + min (max l.tokens.count 0) 1048576))
theorem skips_no {c : Config} {id : Int} {n : Node} {k : Nat} (h : SumInv c id n k) (d : Act15) {th : Int → Int} (ht : ∀ b, th b = (n.cache.tok b).count) (hs : skips c th d.letter = false) : ∀ b t, n.comes d = some (b, t) → (n.cache.tok b).count + t.count ≤ c.tokens := by
  intro b t e
  unfold Node.comes at e
  split at e
  · rename_i h1
    cases e
    obtain ⟨g1, g2, g3⟩ := (Letter.legal_iff.1 h1.2.1).good h1.2.2.2
    have hc := h.held.c.tokens
    rw [h.nc] at g2 hc
    have hp := g1.pos
    have hf := h.few d.letter.block
    have hn := (h.runs.ok.good d.letter.block).pos
    simp only [skips, h1.2.2.2, decide_true, Bool.true_and, Bool.or_eq_false_iff, decide_eq_false_iff_not, ht] at hs
    have := hs.2
    omega
  · cases e
theorem SumsAt.low {n' : Node} {th : Int → Int} {x : Letter} {R : List Letter} (ok : n'.cache.Ok) (h : SumsAt n' th (x :: R)) (b : Int) : 0 ≤ th b ∧ 0 ≤ th x.block - x.tokens.count ∧ 0 ≤ x.tokens.count := by
  have good : ∀ y : Letter, y.Legal n'.c → y.tokens.Good := fun y hy => by
    by_cases hk : y.kind = 1
    · exact (hy.good hk).1
    · rw [hy.other hk]; exact Bundle.none_good
  have hp : ∀ y ∈ x :: R, y.tokens.Good := fun y hy => good y (h.legal y hy).1
  have h1 := sentM_pos b (x :: R) hp
  have h2 := sentM_pos x.block R (fun y hy => hp y (by simp [hy]))
  have h3 := h.sum b
  have h4 := h.sum x.block
  have h5 := (ok.good b).pos
  have h6 := (ok.good x.block).pos
  have h7 := (hp x (by simp)).pos
  simp only [sentM, if_true] at h4
  refine ⟨by omega, by omega, h7⟩
end Go.Proofs.YtchlioikkhnidaaGreat
